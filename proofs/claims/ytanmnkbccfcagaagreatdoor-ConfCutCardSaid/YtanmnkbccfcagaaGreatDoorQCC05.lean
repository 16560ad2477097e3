/-
  Texts of a proof, joined: JB, JC, JD, B5, B6, HP, JE, JG, ND, JH, JI, JJ, JK, JL, JM, JY, JN, JO, E6, E7, E8, B3, K24, E9, E10, F2, Y4, F3, F4, Y5, F5, E11, E12, E13, F6, F7, F8, F9, G0, G1, JZ, NA, NF, JP, JQ, HQ, HR, HS.
  Conditions: none.
-/
import Derived.Test.YtanmnkbccfcagaaGreatDoorQCC04
import Derived.Test.YtanmnkbccfcagaaGreatDoorQCC03
import Derived.Test.YtanmnkbccfcagaaGreatDoorQCC02
import Derived.MapFrom
import Derived.Test.YtanmnkbccfcagaaGreatDoorQCC01
import Derived.Lib.SplitLaws
set_option linter.unusedVariables false
set_option linter.unusedSimpArgs false
set_option linter.defProp false
set_option linter.unnecessarySimpa false
set_option maxHeartbeats 8000000
namespace Go.Proofs.YtanmnkbccfcagaaGreatDoor
open Go
set_option maxRecDepth 10000
theorem dig_stop{s:Lab}{n:Nat}(h:∀j (hj:j<s.length),j<n→digB s[j]=true)(hn:n≤s.length)(h3:n≤3)(he:n<3→∀hj:n<s.length,digB s[n]=false):digN s=n:=by
 have e:s.take 3=s.take n++(s.drop n).take (3 - n):=by
  rw[←List.take_add];congr 1;omega
 unfold digN
 rw[e,List.takeWhile_append_of_pos (fun c hc=>?_),List.length_append,List.length_take]
 ·have:((s.drop n).take (3 - n)).takeWhile digB=[]:=by
   by_cases h4:n<3
   ·by_cases h5:n<s.length
    ·rw[List.drop_eq_getElem_cons h5,show 3 - n=(3 - n - 1)+1 by omega,List.take_succ_cons,List.takeWhile_cons_of_neg (by rw[he h4 h5];decide)]
    ·rw[List.drop_of_length_le (by omega)];simp
   ·rw[show 3 - n=0 by omega];rfl
  rw[this];simp;omega
 ·obtain⟨j,hj,rfl⟩:=List.mem_iff_getElem.1 hc
  rw[List.length_take]at hj
  rw[List.getElem_take]
  exact h j (by omega) (by omega)
def zfh(s:Lab)(n:Nat):Bool:=match s[n]? with
 |some c=>decide (n<3) && digB c
 |Option.none=>false
theorem ziu(w:World)(s:Lab)(hl:s.length≤1000000000):Fn Tryz.prog 273 #[vs s] w (fun v w'=>v=vi (digN s)∧w=w'):=by
 refine enter Tryz.func273 Tryz.ntmps273 rfl rfl ?_
 refine go trivial ?_
 refine zaR (fun m σ ds v=>ds=[]∧∃n,n+m=3∧n≤s.length∧σ 0=vs s∧σ 3=vi n∧w=v∧∀j (hj:j<s.length),j<n→digB s[j]=true) 3 ?_ ?_
 ·exact⟨rfl,0,by omega,Nat.zero_le _,vr0,vr0,rfl,fun j _ h=>by omega⟩
 rintro m σ ds v ⟨rfl,n,hnm,hnl,s0,s3,rfl,hall⟩
 have hmin:min (s.length:Int) 3=((min s.length 3:Nat):Int):=by omega
 refine go (an2 s0 s3) ?_
 refine zaM (Q:=fun e σ' ds' v'=>e= .normal∧ds'=[]∧w=v'∧σ' 0=vs s∧σ' 3=vi n∧σ' 20= .bool (zfh s n)) ?_ ?_
 ·by_cases c1:n<min s.length 3
  ·have hi:n<s.length:=by omega
   have d1:decide ((n:Int)<((min s.length 3:Nat):Int))=true:=decide_eq_true (by omega)
   have z0:(0:Int)≤(n:Int):=by omega
   have zi:((n:Int)).toNat<s.length:=by omega
   have hct:zfh s n=digB s[n]:=by unfold zfh;rw[List.getElem?_eq_getElem hi];simp only;rw[decide_eq_true (by omega),Bool.true_and]
   obtain⟨c,hc⟩:∃c,s[n]=c:=⟨_,rfl⟩
   have hcx:s[((n:Int)).toNat]'zi=c:=hc
   rw[hct,hc]
   unfold digB
   by_cases c2:48≤c.toNat
   ·have d2:decide ((48:Int)≤(c.toNat:Int))=true:=decide_eq_true (by omega)
    obtain⟨t,ht⟩:∃t,decide ((c.toNat:Int)≤57)=t:=⟨_,rfl⟩
    rw[show (decide (48≤c.toNat) && decide (c.toNat≤57))=t by rw[decide_eq_true c2,Bool.true_and,←ht];exact decide_eq_decide.2 (by omega)]
    refine rq ?_;intro gd K hgd hK
    have hg5:∀n σ b,zaV gd n σ (some (5,b))=zaD (ev n σ (.tmp 9)) b:=(fun n σ b=>by rw[zak,show gd 5=some 9 from(by rw[hgd];rfl)];rfl);have hg11:∀n σ b,zaV gd n σ (some (11,b))=zaD (ev n σ (.tmp 15)) b:=(fun n σ b=>by rw[zak,show gd 11=some 15 from(by rw[hgd];rfl)];rfl)
    try simp (disch:=first|omega|assumption|rfl) only[go_sem,s0,s3,↓hg5,↓hg11]
    refine zgg (vr0) (vr0) ?_
    rw[hmin]
    try simp (disch:=first|omega|assumption|rfl) only[go_sem,s0,s3,d1,z0,zi,hc,d2,ht,↓hg5,↓hg11]
    refine hK _ _ ?_;clear hK hgd;clear K;try clear gd
    exact⟨rfl,rfl,rfl,(vq1 s0),(vq1 s3),vr0⟩
   ·have d2:decide ((48:Int)≤(c.toNat:Int))=false:=decide_eq_false (by omega)
    rw[decide_eq_false c2,Bool.false_and]
    refine rq ?_;intro gd K hgd hK
    have hg5:∀n σ b,zaV gd n σ (some (5,b))=zaD (ev n σ (.tmp 9)) b:=(fun n σ b=>by rw[zak,show gd 5=some 9 from(by rw[hgd];rfl)];rfl);have hg11:∀n σ b,zaV gd n σ (some (11,b))=zaD (ev n σ (.tmp 15)) b:=(fun n σ b=>by rw[zak,show gd 11=some 15 from(by rw[hgd];rfl)];rfl)
    try simp (disch:=first|omega|assumption|rfl) only[go_sem,s0,s3,↓hg5,↓hg11]
    refine zgg (vr0) (vr0) ?_
    rw[hmin]
    try simp (disch:=first|omega|assumption|rfl) only[go_sem,s0,s3,d1,z0,zi,hc,d2,↓hg5,↓hg11]
    refine hK _ _ ?_;clear hK hgd;clear K;try clear gd
    exact⟨rfl,rfl,rfl,(vq1 s0),(vq1 s3),vr0⟩
  ·have d1:decide ((n:Int)<((min s.length 3:Nat):Int))=false:=decide_eq_false (by omega)
   have hct:zfh s n=false:=by
    unfold zfh
    split
    ·rename_i c hc
     have:=(List.getElem?_eq_some_iff.1 hc).1
     rw[decide_eq_false (by omega),Bool.false_and]
    ·rfl
   rw[hct]
   refine rq ?_;intro gd K hgd hK
   have hg5:∀n σ b,zaV gd n σ (some (5,b))=zaD (ev n σ (.tmp 9)) b:=(fun n σ b=>by rw[zak,show gd 5=some 9 from(by rw[hgd];rfl)];rfl);have hg11:∀n σ b,zaV gd n σ (some (11,b))=zaD (ev n σ (.tmp 15)) b:=(fun n σ b=>by rw[zak,show gd 11=some 15 from(by rw[hgd];rfl)];rfl)
   try simp (disch:=first|omega|assumption|rfl) only[go_sem,s0,s3,↓hg5,↓hg11]
   refine zgg (vr0) (vr0) ?_
   rw[hmin]
   try simp (disch:=first|omega|assumption|rfl) only[go_sem,s0,s3,d1,↓hg5,↓hg11]
   refine hK _ _ ?_;clear hK hgd;clear K;try clear gd
   exact⟨rfl,rfl,rfl,(vq1 s0),(vq1 s3),vr0⟩
 rintro _ σ1 _ v1 ⟨rfl,rfl,hv1,g0,g3,g20⟩
 subst hv1
 have hi2:(n:Int)+1=((n+1:Nat):Int):=by push_cast;rfl
 cases hc:zfh s n with
 |true=>
  rw[hc]at g20
  unfold zfh at hc
  split at hc
  ·rename_i c hcc
   simp only[Bool.and_eq_true,decide_eq_true_eq]at hc
   obtain⟨hi,hce⟩:=List.getElem?_eq_some_iff.1 hcc
   refine go (an4 g0 g3 g20 hi2) ?_
   refine⟨m - 1,by omega,rfl,n+1,by omega,by omega,(vq1 g0),(vq1 hi2),rfl,fun j hj hjn=>?_⟩
   by_cases e:j=n
   ·subst e;rw[hce];exact hc.2
   ·exact hall j hj (by omega)
  ·cases hc
 |false=>
  rw[hc]at g20
  refine go (an3 g0 g3 g20) ?_
  refine rt0 Tryz.ntmps273 ?_
  refine⟨?_,rfl⟩
  rw[dig_stop hall hnl (by omega) (fun h3 hj=>by
   unfold zfh at hc
   rw[List.getElem?_eq_getElem hj]at hc
   simp only at hc
   rwa [decide_eq_true h3,Bool.true_and]at hc)]
theorem i_str1(k:IntKind)(a c:UInt8)(r:Lab):ixSD (some .string) (vs (a::c::r)) (.int k 1)=some (.int .u8 c.toNat):=(zgT (by decide) (by simp)).trans rfl
theorem i_str2(k:IntKind)(a b c:UInt8)(r:Lab):ixSD (some .string) (vs (a::b::c::r)) (.int k 2)=some (.int .u8 c.toNat):=(zgT (by decide) (by simp)).trans rfl
attribute [go_sem] i_str1 i_str2
theorem zg2(w:World)(s:Lab)(hl:s.length≤1000000000):Fn Tryz.prog 237 #[vs s] w (fun v w'=>v= .tuple #[zab (escD s).1,vi (escD s).2.1,vi (escD s).2.2]∧Ext w w'):=by
 refine enter Tryz.func237 Tryz.ntmps237 rfl rfl ?_
 refine go trivial ?_
 refine rc trivial (ziu w s hl) ?_
 rintro _ w1 ⟨rfl,hw1⟩
 subst hw1
 unfold escD
 by_cases h0:digN s=0
 ·rw[if_pos h0]
  have d0:decide ((digN s:Int)=0)=true:=decide_eq_true (by omega)
  cases s with
  |nil=>
   refine rgo d0 ?_
   refine zaf (.inr rfl) Tryz.ntmps237 rfl (zac (vr0) (zac (vr0) (zac (vr0) zae))) ?_
   exact⟨rfl,Keep.refl _ _⟩
  |cons c r=>
   have d1:decide (c::r=[])=false:=rfl
   refine rgo (an2 d0 d1) ?_
   refine zaf (.inr rfl) Tryz.ntmps237 rfl (zac (vr0) (zac (vr0) (zac (vr0) zae))) ?_
   exact⟨rfl,Keep.refl _ _⟩
 rw[if_neg h0]
 have d0:decide ((digN s:Int)=0)=false:=decide_eq_false (by omega)
 by_cases h3:digN s=3
 ·rw[if_pos h3]
  have d3:decide ((digN s:Int)=3)=true:=decide_eq_true (by omega)
  have hlen:3≤s.length∧∀j (hj:j<s.length),j<3→digB s[j]=true:=by
   have h4:((s.take 3).takeWhile digB).length=3:=h3
   have h5:((s.take 3).takeWhile digB).length≤(s.take 3).length:=(List.takeWhile_sublist _).length_le
   rw[h4,List.length_take]at h5
   have h6:(s.take 3).takeWhile digB=s.take 3:=(List.takeWhile_prefix digB).eq_of_length (by rw[h4,List.length_take];omega)
   refine⟨by omega,fun j hj h=>?_⟩
   have h7:s[j]∈(s.take 3).takeWhile digB:=by
    rw[h6]
    exact List.mem_iff_getElem.2 ⟨j,by rw[List.length_take];omega,by rw[List.getElem_take]⟩
   exact List.all_eq_true.1 List.all_takeWhile _ h7
  obtain⟨hl3,hdg⟩:=hlen
  obtain⟨a,b,c,r,rfl⟩:∃a b c r,s=a::b::c::r:=by
   match s,hl3 with
   |a::b::c::r,_=>exact⟨a,b,c,r,rfl⟩
  have ka:=hdg 0 (by simp) (by omega)
  have kb:=hdg 1 (by simp) (by omega)
  have kc:=hdg 2 (by simp) (by omega)
  simp only[List.getElem_cons_zero,List.getElem_cons_succ]at ka kb kc
  unfold digB at ka kb kc
  simp only[Bool.and_eq_true,decide_eq_true_eq]at ka kb kc
  obtain⟨x,hx⟩:∃x,a.toNat=48+x:=⟨a.toNat - 48,by omega⟩
  obtain⟨y,hy⟩:∃y,b.toNat=48+y:=⟨b.toNat - 48,by omega⟩
  obtain⟨z,hz⟩:∃z,c.toNat=48+z:=⟨c.toNat - 48,by omega⟩
  have hv:escV (a::b::c::r)=100*x+10*y+z:=by unfold escV;simp only;omega
  obtain⟨V,hV⟩:∃V,100*x+10*y+z=V:=⟨_,rfl⟩
  have ea:(a.toNat:Int) - 48=(x:Int):=by omega
  have eb:(b.toNat:Int) - 48=(y:Int):=by omega
  have ec:(c.toNat:Int) - 48=(z:Int):=by omega
  have eV:100*(x:Int)+10*(y:Int)+(z:Int)=(V:Int):=by omega
  have e0:(a::b::c::r)[Int.toNat 0]'(by simp)=a:=rfl
  have e1:(a::b::c::r)[Int.toNat 1]'(by simp)=b:=rfl
  have e2:(a::b::c::r)[Int.toNat 2]'(by simp)=c:=rfl
  rw[hv,hV]
  refine rgo (an2 d0 d3) ?_
  refine zaM (Q:=fun e σ' ds' v'=>e= .normal∧ds'=[]∧Ext w v'∧σ' 5=vi V) ?_ ?_
  ·refine zaU (fun _=>false) [(0,true),(1,true),(2,true),(3,true),(4,true),(5,true),(6,true),(7,true),(8,true),(9,true),(10,true),(11,true),(12,true),(13,true),(14,true),(15,true),(16,true)] NoS mixed (by kernel_rfl) ?_;intro gd K x hgd hx hxe hK;have hx0:=za0 hxe;clear hxe
   simp (disch:=first|omega|assumption|rfl) only[go_sem,e0,e1,e2,ea,eb,ec,eV]
   refine hK _ _ ?_;clear hK hgd;clear K;try clear gd
   exact⟨rfl,rfl,hx0,vr0⟩
  rintro _ σ1 _ v1 ⟨rfl,rfl,hE1,g5⟩
  by_cases hb:255<V
  ·have d5:decide ((255:Int)<(V:Int))=true:=decide_eq_true (by omega)
   rw[if_pos hb]
   refine go (an2 g5 d5) ?_
   refine zaf (.inr rfl) Tryz.ntmps237 rfl (zac (vr0) (zac (vr0) (zac (vr0) zae))) ?_
   exact⟨rfl,hE1⟩
  ·have d5:decide ((255:Int)<(V:Int))=false:=decide_eq_false (by omega)
   rw[if_neg hb]
   refine go (an2 g5 d5) ?_
   refine zaf (.inr rfl) Tryz.ntmps237 rfl (zac (vr0) (zac (vr0) (zac (vr0) zae))) ?_
   exact⟨by rw[zb8 (by omega)];rfl,hE1⟩
 rw[if_neg h3]
 have d3:decide ((digN s:Int)=3)=false:=decide_eq_false (by omega)
 refine rgo (an2 d0 d3) ?_
 refine zaf (.inr rfl) Tryz.ntmps237 rfl (zac (vr0) (zac (vr0) (zac (vr0) zae))) ?_
 exact⟨rfl,Keep.refl _ _⟩
theorem zfu(w:World)(l:Lab)(c:UInt8):Fn Tryz.prog 132 #[vs l,zab c] w (fun v w'=>v=vi (Lib.indexByte l c)∧w'=w):=
 Fn.of_calls (Calls.mono (Any.strings_IndexByte Tryz.lays137 ⟨l.toArray⟩ (c.toNat:Int) w) fun _ _ ⟨he,hw⟩=>⟨_,he,by simp,hw⟩)
theorem escD_le(s:Lab):(escD s).2.1≤3∧0≤(escD s).2.2∧(escD s).2.2≤7:=by
 unfold escD
 split
 ·cases s<;>simp
 ·split
  ·split<;>simp
  ·simp
theorem unD_skip(bare:Lab)(k:Nat)(c:UInt8)(s acc:Lab):unD bare (k+1) (c::s) acc=unD bare k s acc:=by rw[unD]
structure UnI(w:World)(s bare:Lab)(B:Nat)(A:World)(bh:Nat)(acc:Lab):Prop where
 e:Ext w A
 hB:w.heap.size+6≤B
 c0:A.heap[w.heap.size]? =some (.cells #[vs s] 9 (0,0))
 c1:A.heap[w.heap.size+1]? =some (.cells #[vs bare] 9 (0,0))
 c2:A.heap[w.heap.size+2]? =some (.cells #[vs []] 9 (0,0))
 c3:A.heap[w.heap.size+3]? =some (.cells #[vi 0] 39 (0,0))
 c5:A.heap[w.heap.size+5]? =some (.cells #[vi bh] 3 (0,0))
 b:Bld B A (w.heap.size+4) acc
theorem UnI.lt{w:World}{s bare:Lab}{B:Nat}{A:World}{bh:Nat}{acc:Lab}(h:UnI w s bare B A bh acc):w.heap.size+5<A.heap.size:=(Array.getElem?_eq_some_iff.1 h.c5).1
theorem UnI.keep{w:World}{s bare:Lab}{B:Nat}{A X:World}{bh:Nat}{acc:Lab}{S:Nat→Prop}(h:UnI w s bare B A bh acc)(hk:Keep S A X)(hS:∀i,S i→w.heap.size+6≤i∧i<B):UnI w s bare B X bh acc:=by
 have hlt:=h.lt
 have hb:∀j,j<w.heap.size+6→X.heap[j]? =A.heap[j]?:=fun j hj=>hk.block _ (by omega) fun hs=>by have:=(hS _ hs).1;omega
 obtain⟨p,v,h1,h2,h3⟩:=h.b.ex
 exact⟨Keep.to_ext h.e rfl (fun i hi=>by have:=(hS i hi).1;omega) hk,h.hB,(hb _ (by omega)).trans h.c0,(hb _ (by omega)).trans h.c1,(hb _ (by omega)).trans h.c2,(hb _ (by omega)).trans h.c3,(hb _ (by omega)).trans h.c5,
  ⟨⟨p,v,h1,(hb _ (by omega)).trans h2,h3.keep hk fun i hi hs=>by have:=(hS i hs).2;have:=(h3.ge hi).1;omega⟩⟩⟩
theorem UnI.ext{w:World}{s bare:Lab}{B:Nat}{A X:World}{bh:Nat}{acc:Lab}(h:UnI w s bare B A bh acc)(hk:Ext A X):UnI w s bare B X bh acc:=h.keep hk fun _ h=>h.elim
theorem UnI.turn{w:World}{s bare:Lab}{B:Nat}{A X:World}{bh bh':Nat}{acc:Lab}(h:UnI w s bare B A bh acc)(hk:Keep (fun i=>i=w.heap.size+5) A X)(h5:X.heap[w.heap.size+5]? =some (.cells #[vi bh'] 3 (0,0))):UnI w s bare B X bh' acc:=by
 have hlt:=h.lt
 have hb:∀j,j<w.heap.size+5→X.heap[j]? =A.heap[j]?:=fun j hj=>hk.block _ (by omega) (by omega)
 obtain⟨p,v,h1,h2,h3⟩:=h.b.ex
 have hB:=h.hB
 exact⟨Keep.to_ext h.e rfl (fun i hi=>by omega) hk,h.hB,(hb _ (by omega)).trans h.c0,(hb _ (by omega)).trans h.c1,(hb _ (by omega)).trans h.c2,(hb _ (by omega)).trans h.c3,h5,
  ⟨⟨p,v,h1,(hb _ (by omega)).trans h2,h3.keep hk fun i hi hs=>by have:=(h3.ge hi).1;omega⟩⟩⟩
theorem UnI.wrote{w:World}{s bare:Lab}{B:Nat}{A X:World}{bh:Nat}{acc acc':Lab}(h:UnI w s bare B A bh acc)(hk:Keep (fun i=>i=w.heap.size+4∨B≤i) A X)(hb:Bld B X (w.heap.size+4) acc'):UnI w s bare B X bh acc':=by
 have hlt:=h.lt
 have hB:=h.hB
 have hb':∀j,j<w.heap.size+6→¬j=w.heap.size+4→X.heap[j]? =A.heap[j]?:=fun j hj hn=>hk.block _ (by omega) (by omega)
 exact⟨Keep.to_ext h.e rfl (fun i hi=>by omega) hk,h.hB,(hb' _ (by omega) (by omega)).trans h.c0,(hb' _ (by omega) (by omega)).trans h.c1,(hb' _ (by omega) (by omega)).trans h.c2,(hb' _ (by omega) (by omega)).trans h.c3,(hb' _ (by omega) (by omega)).trans h.c5,hb⟩
def UnE(w A:World)(e:Int):Prop:=Ext w A∧A.heap[w.heap.size+2]? =some (.cells #[vs []] 9 (0,0))∧A.heap[w.heap.size+3]? =some (.cells #[vi e] 39 (0,0))
theorem UnE.keep{w A X:World}{e:Int}{S:Nat→Prop}(h:UnE w A e)(hk:Keep S A X)(hS:∀i,S i→w.heap.size+4≤i):UnE w X e:=by
 obtain⟨h1,h2,h3⟩:=h
 have l1:=(Array.getElem?_eq_some_iff.1 h3).1
 exact⟨Keep.to_ext h1 rfl (fun i hi=>by have:=hS i hi;omega) hk,(hk.block _ (by omega) fun hs=>by have:=hS _ hs;omega).trans h2,(hk.block _ (by omega) fun hs=>by have:=hS _ hs;omega).trans h3⟩
theorem zfY(w:World)(s bare:Lab)(hl:s.length≤1000000000):Fn Tryz.prog 195 #[vs s,vs bare] w (fun v w'=>v= .tuple #[vs (unD bare 0 s []).1,vi (unD bare 0 s []).2]∧Ext w w'):=by
 refine enter Tryz.func195 Tryz.ntmps195 rfl rfl ?_
 refine go trivial ?_
 simp only[zaz]
 refine W_alloc3 ?_
 intro w0 hE0 hs0 hA2 hA3 hA4
 obtain⟨hEX,hsX,hA0,hA1⟩:=zcF w (.cells #[vs s] 9 (0,0)) (.cells #[vs bare] 9 (0,0))
 rw[hsX]at hs0 hA2 hA3 hA4
 refine rq ?_;intro gd K hgd hK
 try simp only[go_sem]
 refine zat (P:=Tryz.prog) rfl rfl rfl (zaB w0 _) (by simp) (by simp) ?_
 intro w1 hs1 hA5 hk1
 rw[zaz]at hs1
 try simp only[go_sem]
 refine hK _ _ ?_;clear hK hgd;clear K;try clear gd
 rw[hs0]at hA5 ⊢
 have hE1:Ext w0 w1:=Keep.to_ext (Ext.alloc w0 _) rfl (fun b hb=>by omega) hk1
 have b0:=Ext.at (hE0.trans hE1) hA0
 have b1:=Ext.at (hE0.trans hE1) hA1
 have b2:=Ext.at hE1 hA2
 have b3:=Ext.at hE1 hA3
 have b4:=Ext.at hE1 hA4
 have hEw1:=(hEX.trans hE0).trans hE1
 refine go trivial ?_
 have c0:zag w1 (some ⟨w.heap.size,0,Option.none⟩)=some (vs s):=zad b0 rfl
 refine rc c0 (zcu w1 s (by omega)) ?_
 rintro _ w3 ⟨hE3,cap,rfl,hit⟩
 refine rgo trivial ?_
 have hs3:=hE3.size
 have hI3:UnI w s bare (w3.heap.size+2) w3 0 []:=⟨hEw1.trans hE3,by omega,hE3.at b0,hE3.at b1,hE3.at b2,hE3.at b3,hE3.at (by simpa using hA5),⟨⟨_,_,.inl rfl,hE3.at b4,Own.nil _ _ _⟩⟩⟩
 obtain⟨D,hD⟩:∃D,w3.heap.size=D:=⟨_,rfl⟩
 rw[hD]at hI3
 have hDw:w.heap.size+6≤D:=by omega
 refine zaM (Q:=fun e σ' ds' v'=>(e= .normal∨e= .ret)∧ds'=[{target:= .collected D,args:=#[]}]∧v'.heap[D]? =some (.deferred (some []))∧(σ' 4= .pointer (some ⟨w.heap.size+2,0,Option.none⟩)∧σ' 5= .pointer (some ⟨w.heap.size+3,0,Option.none⟩)∧σ' 6= .pointer (some ⟨w.heap.size+4,0,Option.none⟩))∧
  ((e= .normal∧∃bh acc,UnI w s bare (D+2) v' bh acc∧acc.length≤s.length∧unD bare 0 s []=(acc,0))∨(e= .ret∧∃er,UnE w v' er∧unD bare 0 s []=([],er)))) ?_ ?_
 ·refine zcV (g:=185) (cap:=cap) (vq0) rfl (hit (fun b=>w.heap.size+2≤b∧b≤w.heap.size+5) (fun b hb=>by omega)) (Keep.refl _ _) (Nat.le_refl _) (fun b hb=>by omega)
   (fun x A args h=>by rw[h];rfl)
   (fun pre A=>∃bh acc,UnI w s bare (D+2) A bh acc∧acc.length≤pre.length∧bh≤pre.length+4∧unD bare (bh - pre.length) (s.drop pre.length) acc=unD bare 0 s [])
   (fun c pre A=>c= .ret∧∃er,UnE w A er∧unD bare 0 s []=([],er)) ?_ ?_ ?_ ?_ ?_ ?_
  ·rintro pre A X ⟨bh,acc,h1,h2⟩ hk
   exact⟨bh,acc,h1.keep hk (fun i hi=>by unfold two at hi;omega),h2⟩
  ·rintro c pre A X ⟨rfl,er,h1,h2⟩ hk
   exact⟨rfl,er,h1.keep hk (fun i hi=>by unfold two at hi;omega),h2⟩
  ·exact⟨0,[],hI3,by simp,by simp,by simp⟩
  ·rintro lp pre x suf A args hxs hszA ⟨bh,acc,hI,hal,hbl,hun⟩ rfl
   obtain⟨hk,rfl⟩:=zbw hxs
   dsimp only
   refine go trivial ?_
   refine⟨rfl,KeepB.refl _ _ _,fun A2 hA2=>?_⟩
   rw[hD]at hszA hA2 ⊢
   have hI2:=hI.keep hA2 (fun i hi=>by unfold two at hi;omega)
   have hs2:=hA2.size
   clear hI
   obtain⟨c,hc⟩:∃c,s[pre.length]=c:=⟨_,rfl⟩
   rw[hc]
   rw[List.drop_eq_getElem_cons hk,hc]at hun
   obtain⟨i,hi⟩:∃i,pre.length=i:=⟨_,rfl⟩
   rw[hi]at hk hun hal hbl ⊢
   have hpl:∀y:UInt8×Nat,(pre++ [y]).length=i+1:=fun y=>by simp[hi]
   have c5:zag A2 (some ⟨w.heap.size+5,0,Option.none⟩)=some (vi bh):=zad hI2.c5 rfl
   have hi2:(i:Int)+1=((i+1:Nat):Int):=by push_cast;rfl
   by_cases hb:i<bh
   ·have d1:decide ((i:Int)<(bh:Int))=true:=decide_eq_true (by omega)
    refine go (an2 c5 d1) ?_
    refine⟨⟨bh,acc,hI2,by rw[hpl];omega,by rw[hpl];omega,?_⟩,KeepB.refl _ _ _⟩
    rw[hpl,←hun,show bh - i=(bh - (i+1))+1 by omega,unD_skip]
   have d1:decide ((i:Int)<(bh:Int))=false:=decide_eq_false (by omega)
   rw[show bh - i=0 by omega,unD]at hun
   refine go (an2 c5 d1) ?_
   refine rq ?_;intro gd K hgd hK
   try simp (disch:=first|omega|assumption|rfl) only[go_sem,hi2]
   refine zat rfl rfl rfl hI2.c5 (by simp) (by simp) ?_
   intro z1 hzs1 hzb1 hzk1
   try simp only[go_sem]
   refine hK _ _ ?_;clear hK hgd;clear K;try clear gd
   have hJ1:=hI2.turn hzk1 hzb1
   have hKz1:KeepB (D+2) (fun b=>w.heap.size+2≤b∧b≤w.heap.size+5) A2 z1:=hzk1.toB (by omega) (fun j hj h=>by omega)
   have k0:zag z1 (some ⟨w.heap.size,0,Option.none⟩)=some (vs s):=zad hJ1.c0 rfl
   have k1:zag z1 (some ⟨w.heap.size+1,0,Option.none⟩)=some (vs bare):=zad hJ1.c1 rfl
   clear c5 hI2
   have hbv:zab c= .int .u8 (c.toNat:Int):=rfl
   by_cases h92:c=92
   ·have d2:decide ((c.toNat:Int)=92)=true:=by subst h92;rfl
    rw[if_pos h92]at hun
    have z0:(0:Int)≤((i+1:Nat):Int):=by omega
    have z2:((i+1:Nat):Int)≤(s.length:Int):=by omega
    obtain⟨q,hq⟩:∃q,escD (s.drop (i+1))=q:=⟨_,rfl⟩
    have hle:=escD_le (s.drop (i+1))
    obtain⟨x,n,er⟩:=q
    rw[hq]at hun hle
    simp only at hun hle
    refine go (an2 hbv d2) ?_
    refine rc (an4 k0 hi2 z0 z2) (zg2 z1 (s.drop (i+1)) (by rw[List.length_drop];omega)) ?_
    rintro _ y1 ⟨rfl,hE2⟩
    rw[hq]
    simp only
    have hJ2:=hJ1.ext hE2
    have hsy1:=hE2.size
    have hKy1:=hKz1.trans (hE2.toB (by omega) (fun _ _ h=>h.elim))
    by_cases he:er=0
    ·have d3:decide (er=0)=true:=decide_eq_true he
     rw[if_pos he]at hun
     refine rgo d3 ?_
     refine rc trivial (zaL (c:=x) hJ2.b (by have:=hJ2.lt;omega) (by omega)) ?_
     rintro _ y2 ⟨hB2,hk2⟩
     have hJ3:=hJ2.wrote hk2 hB2
     have hsy2:=hk2.size
     have hKy2:=hKy1.trans (hk2.toB (by omega) (fun j hj h=>by omega))
     have c5:zag y2 (some ⟨w.heap.size+5,0,Option.none⟩)=some (vi ((i+1:Nat):Int)):=zad hJ3.c5 rfl
     have hin:((i+1:Nat):Int)+(n:Int)=((i+1+n:Nat):Int):=by push_cast;rfl
     refine rgo trivial ?_
     refine rq ?_;intro gd K hgd hK
     try simp (disch:=first|omega|assumption|rfl) only[go_sem,c5,hin]
     refine zat rfl rfl rfl hJ3.c5 (by simp) (by simp) ?_
     intro y3 hys3 hyb3 hyk3
     try simp only[go_sem]
     refine hK _ _ ?_;clear hK hgd;clear K;try clear gd
     refine go trivial ?_
     refine⟨⟨i+1+n,acc++ [x],hJ3.turn hyk3 hyb3,by rw[hpl];simp;omega,by rw[hpl];omega,?_⟩,hKy2.trans (hyk3.toB (by omega) (fun j hj h=>by omega))⟩
     rw[hpl,←hun,show i+1+n - (i+1)=n by omega]
    ·have d3:decide (er=0)=false:=decide_eq_false he
     rw[if_neg he]at hun
     refine rgo d3 ?_
     refine rq ?_;intro gd K hgd hK
     try simp only[go_sem]
     refine zat rfl rfl rfl hJ2.c2 (by simp) (by simp) ?_
     intro y2 hys2 hyb2 hyk2
     try simp only[go_sem]
     refine zat rfl rfl rfl ((hyk2.block _ (by have:=hJ2.lt;omega) (by omega)).trans hJ2.c3) (by simp) (by simp) ?_
     intro y3 hys3 hyb3 hyk3
     try simp only[go_sem]
     refine hK _ _ ?_;clear hK hgd;clear K;try clear gd
     refine go trivial ?_
     refine⟨⟨rfl,er,⟨Keep.to_ext (Keep.to_ext hJ2.e rfl (fun i hi=>by omega) hyk2) rfl (fun i hi=>by omega) hyk3,(hyk3.block _ (by have:=hJ2.lt;omega) (by omega)).trans hyb2,hyb3⟩,hun.symm⟩,(hKy1.trans (hyk2.toB (by omega) (fun j hj h=>by omega))).trans (hyk3.toB (by omega) (fun j hj h=>by omega))⟩
   ·have d2:decide ((c.toNat:Int)=92)=false:=decide_eq_false fun h=>h92 (UInt8.toNat_inj.1 (by have:(92:UInt8).toNat=92:=rfl;omega))
    rw[if_neg h92]at hun
    have hhas:=zcy bare c
    refine go (an2 hbv d2) ?_
    refine rc k1 (zfu z1 bare c) ?_
    rintro _ y0 ⟨rfl,hy0⟩
    subst hy0
    cases ht:bare.contains c with
    |true=>
     rw[ht]at hhas hun
     rw[if_pos rfl]at hun
     refine rgo hhas ?_
     refine rq ?_;intro gd K hgd hK
     try simp only[go_sem]
     refine zat rfl rfl rfl hJ1.c2 (by simp) (by simp) ?_
     intro y2 hys2 hyb2 hyk2
     try simp only[go_sem]
     refine zat rfl rfl rfl ((hyk2.block _ (by have:=hJ1.lt;omega) (by omega)).trans hJ1.c3) (by simp) (by simp) ?_
     intro y3 hys3 hyb3 hyk3
     try simp only[go_sem]
     refine hK _ _ ?_;clear hK hgd;clear K;try clear gd
     refine go trivial ?_
     refine⟨⟨rfl,2,⟨Keep.to_ext (Keep.to_ext hJ1.e rfl (fun i hi=>by omega) hyk2) rfl (fun i hi=>by omega) hyk3,(hyk3.block _ (by have:=hJ1.lt;omega) (by omega)).trans hyb2,hyb3⟩,hun.symm⟩,(hKz1.trans (hyk2.toB (by omega) (fun j hj h=>by omega))).trans (hyk3.toB (by omega) (fun j hj h=>by omega))⟩
    |false=>
     rw[ht]at hhas hun
     rw[if_neg (by decide)]at hun
     refine rgo hhas ?_
     refine rc trivial (zaL (c:=c) hJ1.b (by have:=hJ1.lt;omega) (by omega)) ?_
     rintro _ y2 ⟨hB2,hk2⟩
     refine rgo trivial ?_
     refine⟨⟨i+1,acc++ [c],hJ1.wrote hk2 hB2,by rw[hpl];simp;omega,by rw[hpl];omega,?_⟩,hKz1.trans (hk2.toB (by omega) (fun j hj h=>by omega))⟩
     rw[hpl,←hun,Nat.sub_self]
  ·rintro v hsz ⟨bh,acc,h1,h2,_,h3⟩ hDv
   rw[hD]at hDv
   rw[List.drop_of_length_le (by simp),unD]at h3
   have hz:s.zipIdx.length=s.length:=by simp
   exact⟨.inl rfl,by rw[hD],hDv,⟨vr0,vr0,vr0⟩,.inl ⟨rfl,bh,acc,h1,by omega,h3.symm⟩⟩
  ·rintro c pre x suf v hsz hxs ⟨rfl,er,h1,h2⟩ hDv
   rw[hD]at hDv
   refine go trivial ?_
   exact⟨.inr rfl,by rw[hD],hDv,⟨vr0,vr0,vr0⟩,.inr ⟨rfl,er,h1,h2⟩⟩
 rintro e σ2 ds v ⟨_,rfl,hDv,⟨t4,t5,t6⟩,(⟨rfl,bh,acc,h1,h2,h3⟩| ⟨rfl,er,h1,h3⟩)⟩
 ·have hlv:=h1.lt
  refine go trivial ?_
  refine rq ?_;intro gd K hgd hK
  try simp (disch:=first|omega|assumption|rfl) only[go_sem,t6]
  refine Fn.mono (zbW h1.b (by omega)) ?_
  rintro _ y1 ⟨rfl,hy1⟩
  try simp (disch:=first|omega|assumption|rfl) only[go_sem,t4]
  refine zat rfl rfl rfl ((hy1.block _ (by omega) (by omega)).trans h1.c2) (by simp) (by simp) ?_
  intro y2 hys2 hyb2 hyk2
  try simp (disch:=first|omega|assumption|rfl) only[go_sem,t5]
  refine zat rfl rfl rfl ((hyk2.block _ (by have:=hy1.size;omega) (by omega)).trans ((hy1.block _ (by omega) (by omega)).trans h1.c3)) (by simp) (by simp) ?_
  intro y3 hys3 hyb3 hyk3
  try simp only[go_sem]
  refine hK _ _ ?_;clear hK hgd;clear K;try clear gd
  refine go trivial ?_
  have hsy:=hy1.size
  have e2:=(hyk3.block _ (by omega) (by omega)).trans (show y2.heap[w.heap.size+2]? =some (.cells #[vs acc] 9 (0,0)) by simpa using hyb2)
  have e3:y3.heap[w.heap.size+3]? =some (.cells #[vi 0] 39 (0,0)):=by simpa using hyb3
  have hlD:=(Array.getElem?_eq_some_iff.1 hDv).1
  have hBD:=h1.hB
  refine zej (.inr rfl) Tryz.ntmps195 rfl ((hyk3.block _ (by omega) (by omega)).trans ((hyk2.block _ (by omega) (by omega)).trans ((hy1.block _ (by omega) (by omega)).trans hDv))) fun y hy hys=>⟨_,zek (v:=vs acc) ((vq1 t4)) rfl rfl (zad (i:=0) ((hy.block _ (by omega) (by omega)).trans e2) rfl) (zek (v:=vi 0) ((vq1 t5)) rfl rfl (zad (i:=0) ((hy.block _ (by omega) (by omega)).trans e3) rfl) zae),?_⟩
  rw[h3]
  exact⟨rfl,Keep.to_ext (Keep.to_ext (Keep.to_ext (Keep.to_ext h1.e rfl (fun i hi=>by omega) hy1) rfl (fun i hi=>by omega) hyk2) rfl (fun i hi=>by omega) hyk3) rfl (fun i hi=>by omega) hy⟩
 ·have hlv:=(Array.getElem?_eq_some_iff.1 h1.2.2).1
  refine go trivial ?_
  refine zej (.inr rfl) Tryz.ntmps195 rfl hDv fun y hy hys=>⟨_,zek (v:=vs []) ((vq1 t4)) rfl rfl (zad (i:=0) ((hy.block _ (by omega) (by omega)).trans h1.2.1) rfl) (zek (v:=vi er) ((vq1 t5)) rfl rfl (zad (i:=0) ((hy.block _ (by omega) (by omega)).trans h1.2.2) rfl) zae),?_⟩
  rw[h3]
  exact⟨rfl,Keep.to_ext h1.1 rfl (fun i hi=>by omega) hy⟩
theorem zeK(bare:Lab):∀(k:Nat) (s acc:Lab),(unD bare k s acc).1.length≤acc.length+s.length
 |k,[],acc=>by cases k<;>simp[unD]
 |k+1,c::s,acc=>by
  rw[unD]
  have:=zeK bare k s acc
  rw[List.length_cons];omega
 |0,c::s,acc=>by
  rw[unD,List.length_cons]
  split
  ·split
   ·have:=zeK bare (escD s).2.1 s (acc++ [(escD s).1])
    rw[List.length_append,List.length_singleton]at this;omega
   ·simp
  ·split
   ·simp
   ·have:=zeK bare 0 s (acc++ [c])
    rw[List.length_append,List.length_singleton]at this;omega
theorem ziN(w:World)(p:Lab)(hl:p.length≤1000000000):Fn Tryz.prog 128 #[vs p] w (fun v w'=>v= .tuple #[vs (labD p).1,vi (labD p).2]∧Ext w w'):=by
 refine enter Tryz.func128 Tryz.ntmps128 rfl rfl ?_
 refine go trivial ?_
 refine rc trivial (zfY w p [46] hl) ?_
 rintro _ w1 ⟨rfl,hE1⟩
 have hul:=zeK [46] 0 p []
 rw[List.length_nil]at hul
 unfold labD errP
 obtain⟨⟨l,e⟩,hq⟩:∃q,unD [46] 0 p []=q:=⟨_,rfl⟩
 rw[hq]at hul ⊢
 simp only at hul ⊢
 by_cases he:e=0
 ·have d1:decide (e=0)=true:=decide_eq_true he
  simp only[if_pos he]
  refine rgo d1 ?_
  refine rc trivial (zfs w1 l (by omega)) ?_
  rintro _ w2 ⟨rfl,hE2⟩
  by_cases hc:errL l=0
  ·have d2:decide (errL l=0)=true:=decide_eq_true hc
   rw[if_pos hc]
   refine rgo d2 ?_
   refine zaf (.inr rfl) Tryz.ntmps128 rfl (zac (vr0) (zac (vr0) zae)) ?_
   exact⟨rfl,hE1.trans hE2⟩
  ·have d2:decide (errL l=0)=false:=decide_eq_false hc
   rw[if_neg hc]
   refine rgo d2 ?_
   refine zaf (.inr rfl) Tryz.ntmps128 rfl (zac (vr0) (zac (vr0) zae)) ?_
   exact⟨rfl,hE1.trans hE2⟩
 ·have d1:decide (e=0)=false:=decide_eq_false he
  simp only[if_neg he]
  refine rgo d1 ?_
  refine zaf (.inr rfl) Tryz.ntmps128 rfl (zac (vr0) (zac (vr0) zae)) ?_
  exact⟨rfl,hE1⟩
theorem cut_more{s:Lab}{f i:Nat}(hf:f≤i)(hi:i<s.length):(s.drop f).take (i+1 - f)=(s.drop f).take (i - f)++ [s[i]]:=by
 rw[show i+1 - f=(i - f)+1 by omega,List.take_add_one,List.getElem?_drop,show f+(i - f)=i by omega,List.getElem?_eq_getElem hi]
 rfl
theorem zdu:∀(s:Lab) (t:Bool) (cur:Lab),(splD t cur s).1.length≤s.length+1∧∀p∈(splD t cur s).1,p.length≤cur.length+s.length
 | [],t,cur=>by cases t<;>simp[splD]
 |c::s,true,cur=>by
  obtain⟨h1,h2⟩:=zdu s false (cur++ [c])
  rw[splD]
  refine⟨by rw[List.length_cons];omega,fun p hp=>?_⟩
  have:=h2 p hp
  rw[List.length_append,List.length_singleton]at this
  rw[List.length_cons];omega
 |c::s,false,cur=>by
  rw[splD]
  split
  ·obtain⟨h1,h2⟩:=zdu s true (cur++ [c])
   refine⟨by rw[List.length_cons];omega,fun p hp=>?_⟩
   have:=h2 p hp
   rw[List.length_append,List.length_singleton]at this
   rw[List.length_cons];omega
  ·split
   ·obtain⟨h1,h2⟩:=zdu s false []
    refine⟨by simp only[List.length_cons];omega,fun p hp=>?_⟩
    rcases List.mem_cons.1 hp with rfl|hp
    ·rw[List.length_cons];omega
    ·have:=h2 p hp
     rw[List.length_nil]at this
     rw[List.length_cons];omega
   ·obtain⟨h1,h2⟩:=zdu s false (cur++ [c])
    refine⟨by rw[List.length_cons];omega,fun p hp=>?_⟩
    have:=h2 p hp
    rw[List.length_append,List.length_singleton]at this
    rw[List.length_cons];omega
structure SpI(w:World)(s:Lab)(B:Nat)(A:World)(f:Nat)(t:Bool)(out:List Lab):Prop where
 e:Ext w A
 hB:w.heap.size+5≤B
 c0:A.heap[w.heap.size]? =some (.cells #[vs s] 9 (0,0))
 c2:∃sv,A.heap[w.heap.size+2]? =some (.cells #[sv] 23 (0,0))∧Own (w.heap.size+1) A 9 sv (out.map vs)∧∀i,some i=sv.ownBlock→i=w.heap.size+1∨B≤i
 c3:A.heap[w.heap.size+3]? =some (.cells #[vi f] 3 (0,0))
 c4:A.heap[w.heap.size+4]? =some (.cells #[.bool t] 4 (0,0))
theorem SpI.lt{w:World}{s:Lab}{B:Nat}{A:World}{f:Nat}{t:Bool}{out:List Lab}(h:SpI w s B A f t out):w.heap.size+4<A.heap.size:=(Array.getElem?_eq_some_iff.1 h.c4).1
theorem SpI.keep{w:World}{s:Lab}{B:Nat}{A X:World}{f:Nat}{t:Bool}{out:List Lab}{S:Nat→Prop}(h:SpI w s B A f t out)(hk:Keep S A X)(hS:∀i,S i→w.heap.size+5≤i∧i<B):SpI w s B X f t out:=by
 have hlt:=h.lt
 have hb:∀j,j<w.heap.size+5→X.heap[j]? =A.heap[j]?:=fun j hj=>hk.block _ (by omega) fun hs=>by have:=(hS _ hs).1;omega
 obtain⟨sv,h1,h2,h3⟩:=h.c2
 exact⟨Keep.to_ext h.e rfl (fun i hi=>by have:=(hS i hi).1;omega) hk,h.hB,(hb _ (by omega)).trans h.c0,⟨sv,(hb _ (by omega)).trans h1,h2.keep hk fun i hi hs=>by have:=hS i hs;have:=h3 i hi;omega,h3⟩,(hb _ (by omega)).trans h.c3,(hb _ (by omega)).trans h.c4⟩
theorem SpI.ext{w:World}{s:Lab}{B:Nat}{A X:World}{f:Nat}{t:Bool}{out:List Lab}(h:SpI w s B A f t out)(hk:Ext A X):SpI w s B X f t out:=h.keep hk fun _ h=>h.elim
theorem SpI.turn{w:World}{s:Lab}{B:Nat}{A X:World}{f:Nat}{t t':Bool}{out:List Lab}(h:SpI w s B A f t out)(hk:Keep (fun i=>i=w.heap.size+4) A X)(h4:X.heap[w.heap.size+4]? =some (.cells #[.bool t'] 4 (0,0))):SpI w s B X f t' out:=by
 have hlt:=h.lt
 have hB:=h.hB
 have hb:∀j,j<w.heap.size+4→X.heap[j]? =A.heap[j]?:=fun j hj=>hk.block _ (by omega) (by omega)
 obtain⟨sv,h1,h2,h3⟩:=h.c2
 exact⟨Keep.to_ext h.e rfl (fun i hi=>by omega) hk,h.hB,(hb _ (by omega)).trans h.c0,⟨sv,(hb _ (by omega)).trans h1,h2.keep hk fun i hi hs=>by have:=h3 i hi;omega,h3⟩,(hb _ (by omega)).trans h.c3,h4⟩
theorem ziM(w:World)(s:Lab)(hl:s.length≤1000000000):Fn Tryz.prog 127 #[vs s] w (fun v w'=>Ext w w'∧(((splD false [] s).2=true∧v= .tuple #[.slice Option.none 0 0,vi 2])∨((splD false [] s).2=false∧∃sv,v= .tuple #[sv,vi 0]∧Row w' sv ((splD false [] s).1.map vs)))):=by
 refine enter Tryz.func127 Tryz.ntmps127 rfl rfl ?_
 refine go trivial ?_
 refine zap ?_
 intro w1 hE1 hs1 hA0
 refine rq ?_;intro gd K hgd hK
 try simp only[go_sem]
 refine zgz (z:=vs []) rfl rfl rfl rfl ?_
 intro w2 hE2 hs2 hown2
 try simp only[go_sem]
 refine zat (P:=Tryz.prog) rfl rfl rfl (zaB w2 _) (by simp) (by simp) ?_
 intro x1 hx1 hbx hkx
 rw[zaz]at hx1
 have hEx:Ext w2 x1:=Keep.to_ext (Ext.alloc w2 _) rfl (fun b hb=>by omega) hkx
 try simp only[go_sem]
 refine hK _ _ ?_;clear hK hgd;clear K;try clear gd
 refine go trivial ?_
 obtain⟨hEY,hsY,hY0,hY1⟩:=zcF x1 (.cells #[vi 0] 3 (0,0)) (.cells #[.bool false] 4 (0,0))
 refine rq ?_;intro gd K hgd hK
 try simp only[go_sem]
 refine zat (P:=Tryz.prog) rfl rfl rfl hY0 (by simp) (by simp) ?_
 intro x2 hx2 hbx2 hkx2
 rw[hsY]at hx2
 try simp only[go_sem]
 simp only[zaz]
 refine zat (P:=Tryz.prog) rfl rfl rfl ((hkx2.block _ (by rw[hsY];omega) (by omega)).trans hY1) (by simp) (by simp) ?_
 intro w3 hs3 hbx3 hkx3
 try simp only[go_sem]
 refine hK _ _ ?_;clear hK hgd;clear K;try clear gd
 have hE3:Ext x1 w3:=Keep.to_ext (Keep.to_ext hEY rfl (fun b hb=>by omega) hkx2) rfl (fun b hb=>by omega) hkx3
 have hB3:=(hkx3.block x1.heap.size (by omega) (by omega)).trans hbx2
 have hsx:x1.heap.size=w.heap.size+3:=by omega
 have hsx':x1.heap.size+1=w.heap.size+4:=by omega
 have hsw:w2.heap.size=w.heap.size+2:=by omega
 simp only[zaz]
 rw[hsx']at hbx3 ⊢
 rw[hsx]at hB3 ⊢
 rw[hsw,hs1]at hbx ⊢
 rw[hs1]at hown2
 have hB2:=Ext.at hE3 hbx
 refine go trivial ?_
 have c0:zag w3 (some ⟨w.heap.size,0,Option.none⟩)=some (vs s):=zad (Ext.at hE3 (Ext.at hEx (hE2.at hA0))) rfl
 refine rc c0 (zcu w3 s (by omega)) ?_
 rintro _ w4 ⟨hE4,cap,rfl,hit⟩
 refine rgo trivial ?_
 have hs4:=hE4.size
 have hI4:SpI w s (w4.heap.size+2) w4 0 false []:=⟨(((hE1.trans hE2).trans hEx).trans hE3).trans hE4,by omega,hE4.at (Ext.at hE3 (Ext.at hEx (hE2.at hA0))),⟨_,hE4.at hB2,((hown2.ext hEx).ext hE3).ext hE4,fun i hi=> .inl (by cases hi;rfl)⟩,hE4.at hB3,hE4.at hbx3⟩
 obtain⟨D,hD⟩:∃D,w4.heap.size=D:=⟨_,rfl⟩
 rw[hD]at hI4
 have hDw:w.heap.size+5≤D:=by omega
 refine zaM (Q:=fun e σ' ds' v'=>e= .normal∧ds'=[{target:= .collected D,args:=#[]}]∧v'.heap[D]? =some (.deferred (some []))∧(σ' 1= .pointer (some ⟨w.heap.size,0,Option.none⟩)∧σ' 4= .pointer (some ⟨w.heap.size+2,0,Option.none⟩)∧σ' 5= .pointer (some ⟨w.heap.size+3,0,Option.none⟩)∧σ' 6= .pointer (some ⟨w.heap.size+4,0,Option.none⟩))∧
  ∃f t out,SpI w s (D+2) v' f t out∧out.length≤s.length∧f≤s.length∧splD false [] s=(out++ [s.drop f],t)) ?_ ?_
 ·refine zcV (g:=185) (cap:=cap) (vq0) rfl (hit (fun b=>w.heap.size+1≤b∧b≤w.heap.size+4) (fun b hb=>by omega)) (Keep.refl _ _) (Nat.le_refl _) (fun b hb=>by omega)
   (fun x A args h=>by rw[h];rfl)
   (fun pre A=>∃f t out,SpI w s (D+2) A f t out∧out.length≤pre.length∧f≤pre.length∧splD false [] s=(out++(splD t ((s.drop f).take (pre.length - f)) (s.drop pre.length)).1,(splD t ((s.drop f).take (pre.length - f)) (s.drop pre.length)).2))
   (fun _ _ _=>False) ?_ (fun _ _ _ _ h _=>h.elim) ?_ ?_ ?_ (fun _ _ _ _ _ _ _ h _=>h.elim)
  ·rintro pre A X ⟨f,t,out,h1,h2⟩ hk
   exact⟨f,t,out,h1.keep hk (fun i hi=>by unfold two at hi;omega),h2⟩
  ·exact⟨0,false,[],hI4,by simp,by simp,by simp⟩
  ·rintro lp pre x suf A args hxs hszA ⟨f,t,out,hI,hol,hfl,hsp⟩ rfl
   obtain⟨hk,rfl⟩:=zbw hxs
   dsimp only
   refine go trivial ?_
   refine⟨rfl,KeepB.refl _ _ _,fun A2 hA2=>?_⟩
   rw[hD]at hszA hA2 ⊢
   have hI2:=hI.keep hA2 (fun i hi=>by unfold two at hi;omega)
   have hs2':=hA2.size
   clear hI
   obtain⟨i,hi⟩:∃i,pre.length=i:=⟨_,rfl⟩
   simp only[hi]at hk hsp hol hfl ⊢
   obtain⟨c,hc⟩:∃c,s[i]=c:=⟨_,rfl⟩
   have hcm:=cut_more hfl hk
   rw[hc]at hcm ⊢
   rw[List.drop_eq_getElem_cons hk,hc]at hsp
   have hpl:∀y:UInt8×Nat,(pre++ [y]).length=i+1:=fun y=>by simp[hi]
   have c4:zag A2 (some ⟨w.heap.size+4,0,Option.none⟩)=some (.bool t):=zad hI2.c4 rfl
   have hi2:(i:Int)+1=((i+1:Nat):Int):=by push_cast;rfl
   have hbv:zab c= .int .u8 (c.toNat:Int):=rfl
   cases t with
   |true=>
    rw[splD,←hcm]at hsp
    refine go c4 ?_
    refine rq ?_;intro gd K hgd hK
    try simp only[go_sem]
    refine zat rfl rfl rfl hI2.c4 (by simp) (by simp) ?_
    intro z1 hzs1 hzb1 hzk1
    try simp only[go_sem]
    refine hK _ _ ?_;clear hK hgd;clear K;try clear gd
    refine go trivial ?_
    exact⟨⟨f,false,out,hI2.turn hzk1 hzb1,by rw[hpl];omega,by rw[hpl];omega,by rw[hpl];exact hsp⟩,hzk1.toB (by omega) (fun j hj h=>by omega)⟩
   |false=>
    rw[splD]at hsp
    by_cases h92:c=92
    ·have d2:decide ((c.toNat:Int)=92)=true:=by subst h92;rfl
     rw[if_pos h92,←hcm]at hsp
     refine go (an3 c4 hbv d2) ?_
     refine rq ?_;intro gd K hgd hK
     try simp only[go_sem]
     refine zat rfl rfl rfl hI2.c4 (by simp) (by simp) ?_
     intro z1 hzs1 hzb1 hzk1
     try simp only[go_sem]
     refine hK _ _ ?_;clear hK hgd;clear K;try clear gd
     refine go trivial ?_
     exact⟨⟨f,true,out,hI2.turn hzk1 hzb1,by rw[hpl];omega,by rw[hpl];omega,by rw[hpl];exact hsp⟩,hzk1.toB (by omega) (fun j hj h=>by omega)⟩
    have d2:decide ((c.toNat:Int)=92)=false:=decide_eq_false fun h=>h92 (UInt8.toNat_inj.1 (by have:(92:UInt8).toNat=92:=rfl;omega))
    rw[if_neg h92]at hsp
    by_cases h46:c=46
    rotate_left
    ·have d3:decide ((c.toNat:Int)=46)=false:=decide_eq_false fun h=>h46 (UInt8.toNat_inj.1 (by have:(46:UInt8).toNat=46:=rfl;omega))
     rw[if_neg h46,←hcm]at hsp
     refine go (an4 c4 hbv d2 d3) ?_
     exact⟨⟨f,false,out,hI2,by rw[hpl];omega,by rw[hpl];omega,by rw[hpl];exact hsp⟩,KeepB.refl _ _ _⟩
    have d3:decide ((c.toNat:Int)=46)=true:=by subst h46;rfl
    rw[if_pos h46]at hsp
    obtain⟨sv,hsvb,hown,hob⟩:=hI2.c2
    have k0:zag A2 (some ⟨w.heap.size,0,Option.none⟩)=some (vs s):=zad hI2.c0 rfl
    have k2:zag A2 (some ⟨w.heap.size+2,0,Option.none⟩)=some sv:=zad hsvb rfl
    have k3:zag A2 (some ⟨w.heap.size+3,0,Option.none⟩)=some (vi f):=zad hI2.c3 rfl
    have z0:(0:Int)≤(f:Int):=by omega
    have z1:(f:Int)≤(i:Int):=by omega
    have z2:(i:Int)≤(s.length:Int):=by omega
    have hlt:=hI2.lt
    have hB5:=hI2.hB
    refine go (an4 c4 hbv d2 d3) ?_
    refine zaU (fun i=>i==6||i==9||i==10) [(0,true),(1,true),(2,true),(3,true),(4,true),(7,true),(8,true),(5,false),(6,false),(9,false),(10,false)] NoS mixed (by kernel_rfl) ?_;intro gd K x hgd hx hxe hK;have hx0:=za0 hxe;clear hxe
    have q0:=zaa hx0 k0
    have q2:=zaa hx0 k2
    have q3:=zaa hx0 k3
    have hsx:=hx0.size
    simp (disch:=first|omega|assumption|rfl) only[go_sem,q0,q2,q3,z0,z1,z2]
    refine zbE (z:=vs []) rfl rfl rfl rfl rfl ?_
    intro y1 hy1 hys1 hyo
    refine⟨.inr hy1.keep,?_⟩
    simp (disch:=first|omega|assumption|rfl) only[go_sem]
    have hxy:=hx0.trans hy1
    refine zbi (e:=9) (hown.ext hxy) hyo.row rfl rfl rfl rfl rfl rfl (vr0) (vr0) (fun q hq=>by simp at hq;subst hq;rfl) (by simp;omega) (by decide) (by omega) ?_
    intro sv' y2 hown2' hX2 hK2 hb2
    refine⟨.inl rfl,?_⟩
    simp (disch:=first|omega|assumption|rfl) only[go_sem,hi2]
    have hsy1:=hy1.size
    have hsK2:=hK2.size
    have hbk:∀j,j<w.heap.size+5→¬j=w.heap.size+1→y2.heap[j]? =A2.heap[j]?:=fun j hj hn=>(hK2.block j (by omega) (fun hh=>by have:=hob _ hh;omega)).trans (hxy.block j (by omega) fun h=>h)
    refine zat (P:=Tryz.prog) rfl rfl (by obtain⟨a,c,rfl⟩:=hown2'.slice;rfl) ((hbk _ (by omega) (by omega)).trans hsvb) (by simp) (by simp) ?_
    intro y3 hs3' hb3 hk3
    refine⟨.inl rfl,?_⟩
    simp (disch:=first|omega|assumption|rfl) only[go_sem,hi2]
    refine zat (P:=Tryz.prog) rfl rfl rfl ((hk3.block _ (by omega) (by omega)).trans ((hbk _ (by omega) (by omega)).trans hI2.c3)) (by simp) (by simp) ?_
    intro y4 hs4' hb4 hk4
    refine⟨.inl rfl,?_⟩
    simp (disch:=first|omega|assumption|rfl) only[go_sem]
    refine hK _ _ ?_;clear hK hgd;clear K;try clear gd
    refine go trivial ?_
    have hbk4:∀j,j<w.heap.size+5→¬j=w.heap.size+1→¬j=w.heap.size+2→¬j=w.heap.size+3→y4.heap[j]? =A2.heap[j]?:=fun j hj h1 h2 h3=>(hk4.block j (by omega) h3).trans ((hk3.block j (by omega) h2).trans (hbk j hj h1))
    have hob':∀j,some j=sv'.ownBlock→j=w.heap.size+1∨D+2≤j:=fun j hj=>by
     rcases hb2 j hj with h|h
     ·exact hob j h
     ·omega
    refine⟨⟨i+1,false,out++ [(s.drop f).take (i - f)],⟨Keep.to_ext (Keep.to_ext (Keep.to_ext (hI2.e.trans hxy) rfl (fun j hj=>by have:=hob j hj;omega) hK2) rfl (fun j hj=>by omega) hk3) rfl (fun j hj=>by omega) hk4,hB5,(hbk4 _ (by omega) (by omega) (by omega) (by omega)).trans hI2.c0,⟨sv',(hk4.block _ (by omega) (by omega)).trans hb3,?_,hob'⟩,hb4,(hbk4 _ (by omega) (by omega) (by omega) (by omega)).trans hI2.c4⟩,by rw[hpl];simp;omega,by rw[hpl];omega,?_⟩,
     ((hxy.toB (by omega) (fun _ _ h=>h.elim)).trans (hK2.toB (by omega) (fun j hj h=>by have:=hob j h;omega))).trans ((hk3.toB (by omega) (fun j hj h=>by omega)).trans (hk4.toB (by omega) (fun j hj h=>by omega)))⟩
    ·rw[List.map_append]
     exact(hown2'.keep hk3 fun j hj h=>by have:=hob' j hj;omega).keep hk4 fun j hj h=>by have:=hob' j hj;omega
    ·rw[hpl,hsp,Nat.sub_self,List.take_zero,List.append_assoc]
     rfl
  ·rintro v hsz ⟨f,t,out,h1,h2,h3,h4⟩ hDv
   rw[hD]at hDv
   have hz:s.zipIdx.length=s.length:=by simp
   rw[hz]at h2 h3 h4
   rw[List.drop_length]at h4
   have h5:splD false [] s=(out++ [s.drop f],t):=by
    rw[h4]
    have:(s.drop f).take (s.length - f)=s.drop f:=List.take_of_length_le (by rw[List.length_drop];omega)
    rw[this]
    cases t<;>rw[splD]
   exact⟨rfl,by rw[hD],hDv,⟨vr0,vr0,vr0,vr0⟩,f,t,out,h1,h2,h3,h5⟩
 rintro _ σ2 ds v ⟨rfl,rfl,hDv,⟨t1,t4,t5,t6⟩,f,t,out,hI,hol,hfl,hsp⟩
 have hlv:=hI.lt
 have c4:zag v (some ⟨w.heap.size+4,0,Option.none⟩)=some (.bool t):=zad hI.c4 rfl
 cases t with
 |true=>
  refine go (an2 t6 c4) ?_
  refine zeU (v:= .slice Option.none 0 0) (v':=vi 2) (.inr rfl) (by rfl) Tryz.ntmps127 (vr0) (vr0) hDv ?_
  intro Z hkZ hsZ
  exact⟨Keep.to_ext hI.e rfl (fun i hi=>by omega) hkZ,.inl ⟨by rw[hsp],rfl⟩⟩
 |false=>
  obtain⟨sv,hsvb,hown,hob⟩:=hI.c2
  have k0:zag v (some ⟨w.heap.size,0,Option.none⟩)=some (vs s):=zad hI.c0 rfl
  have k2:zag v (some ⟨w.heap.size+2,0,Option.none⟩)=some sv:=zad hsvb rfl
  have k3:zag v (some ⟨w.heap.size+3,0,Option.none⟩)=some (vi f):=zad hI.c3 rfl
  have z0:(0:Int)≤(f:Int):=by omega
  have z2:(f:Int)≤(s.length:Int):=by omega
  refine go (an2 t6 c4) ?_
  refine zaU (fun i=>i==5) [(0,true),(1,true),(2,true),(3,true),(4,false),(5,false),(6,true),(7,true)] NoS mixed (by kernel_rfl) ?_;intro gd K x hgd hx hxe hK;have hx0:=za0 hxe;clear hxe
  have q0:=zaa hx0 k0
  have q2:=zaa hx0 k2
  have q3:=zaa hx0 k3
  have hsx:=hx0.size
  simp (disch:=first|omega|assumption|rfl) only[go_sem,t1,t4,t5,q0,q2,q3,z0,z2]
  refine zbE (z:=vs []) rfl rfl rfl rfl rfl ?_
  intro y1 hy1 hys1 hyo
  refine⟨.inr hy1.keep,?_⟩
  simp (disch:=first|omega|assumption|rfl) only[go_sem]
  have hxy:=hx0.trans hy1
  have hsy1:=hy1.size
  refine zbi (e:=9) (hown.ext hxy) hyo.row rfl rfl rfl rfl rfl rfl (vr0) (vr0) (fun q hq=>by simp at hq;subst hq;rfl) (by simp;omega) (by decide) (by omega) ?_
  intro sv' y2 hown2' hX2 hK2 hb2
  refine⟨.inl rfl,?_⟩
  simp (disch:=first|omega|assumption|rfl) only[go_sem]
  refine hK _ _ ?_;clear hK hgd;clear K;try clear gd
  have hlD:=(Array.getElem?_eq_some_iff.1 hDv).1
  have hB5:=hI.hB
  refine go trivial ?_
  refine zeU (v:=sv') (v':=vi 0) (.inr rfl) (by rfl) Tryz.ntmps127 (vr0) (vr0) ((hK2.block D (by omega) (fun hh=>by have:=hob _ hh;omega)).trans (Ext.at hxy hDv)) ?_
  intro Z hkZ hsZ
  refine⟨Keep.to_ext (Keep.to_ext (hI.e.trans hxy) rfl (fun j hj=>by have:=hob j hj;omega) hK2) rfl (fun i hi=>by omega) hkZ,.inr ⟨by rw[hsp],sv',rfl,?_⟩⟩
  rw[hsp]
  simp only[List.map_append,List.map_cons,List.map_nil]
  exact(hown2'.keep hkZ fun j hj h=>by
   rcases hb2 j hj with h2|h2
   ·have:=hob j h2;omega
   ·omega).row
def encL(x:Lab)(_:World)(args:Array Value):Prop:=args=#[vs x]
theorem revDrop{n:Nm}{k:Nat}(hk:k<n.length):(n.take (k+1)).reverse=n[k]::(n.take k).reverse:=by
 rw[zan hk];simp
theorem labelsIt{W0:World}{C:Nat→Prop}{bn:Nat}{nv:Value}{n:Nm}(hbn:W0.heap[bn]? =some (.cells #[nv] 24 (0,0)))(hn:Row W0 nv (n.map vs))(hC1:¬C bn)(hCw:n≠ []→∀b,C b→b<W0.heap.size→∀a m c,nv= .slice (some a) m c→a.block≠b)(hnl:n.length≤1000000000000)
  (hnb:n≠ []→∀a m c,nv= .slice (some a) m c→a.block<W0.heap.size):
  Iter Tryz.prog 238 #[.pointer (some ⟨bn,0,Option.none⟩)] W0 W0.heap.size C n.reverse encL:=by
 intro lp J Jx W hW hnW hJ hJx hY h0
 obtain⟨an,cn,rfl,hcn,hgn⟩:=hn
 simp only[List.length_map]at hcn hgn hbn hCw hnb
 have hln:=(Array.getElem?_eq_some_iff.1 hbn).1
 have p0:zag W (some ⟨bn,0,Option.none⟩)=some (.slice an n.length cn):=zaa hW (zad hbn rfl)
 refine enter Tryz.func238 Tryz.ntmps238 rfl rfl ?_
 repeat refine c_r ?_
 refine rg2 p0 Nat.add_zero ?_
 repeat refine c_r ?_
 refine zaR (fun m σ ds v=>ds=[]∧∃(pre:List Lab) (k:Nat),n.reverse=pre++(n.take k).reverse∧k≤m∧k≤n.length∧σ 3=vi ((k:Int) - 1)∧σ 0= .func (.yield lp) #[] #[]∧σ 1= .pointer (some ⟨bn,0,Option.none⟩)∧J pre v∧KeepB W0.heap.size C W v) n.length ?_ ?_
 ·exact⟨rfl,[],n.length,by simp,Nat.le_refl _,Nat.le_refl _,vq0,vq0,vq0,h0,KeepB.refl _ _ _⟩
 rintro m σ ds v ⟨rfl,pre,k,hd,hkm,hkn,h3,hs0,hs1,hjj,hKB⟩
 have p1:zag v (some ⟨bn,0,Option.none⟩)=some (.slice an n.length cn):=zbD hKB hln hC1 p0
 repeat refine c_r ?_
 refine rg1 h3 ?_
 repeat refine c_r ?_
 refine wc0 ?_ ?_
 ·intro hge
  simp only[decide_eq_true_eq,ge_iff_le]at hge
  obtain⟨j,rfl⟩:∃j,k=j+1:=⟨k - 1,by omega⟩
  have hj:j<n.length:=by omega
  have ej:((j+1:Nat):Int) - 1=(j:Int):=by omega
  rw[ej]at h3
  have hj0:(0:Int)≤(j:Int):=by omega
  have hj1:(j:Int)<(n.length:Int):=by omega
  have hg:=hgn j (by simpa using hj)
  rw[List.getElem_map]at hg
  obtain⟨xn,rfl⟩:=Option.isSome_iff_exists.1 (zaj hg)
  have hnn:n≠ []:=List.length_pos_iff.1 (by omega)
  have hgv:zag v (adr (some xn) j)=some (vs n[j]):=by
   have hb:=hnb hnn xn _ _ rfl
   have h1:=zaa hW hg
   refine zbD hKB (by rw[zbS];exact hb) (fun hc=>?_) h1
   rw[zbS]at hc
   exact hCw hnn _ hc hb xn _ _ rfl rfl
  have hxs:n.reverse=pre++n[j]::(n.take j).reverse:=by rw[hd,revDrop hj]
  repeat refine c_r ?_
  refine rq ?_;intro gd K hgd hK
  try simp (disch:=first|omega|assumption|rfl) only[go_sem,h3,hs0,hs1,p1,hj0,hj1,hgv]
  refine Yld.mono (hY pre n[j] (n.take j).reverse v _ hxs hjj hKB rfl) ?_
  rintro u x (⟨rfl,hj',hk'⟩| ⟨rfl,hjx⟩)
  ·try simp only[go_sem]
   refine hK _ _ ?_;clear hK hgd;clear K;try clear gd
   repeat refine c_r ?_
   refine wc0 ?_ ?_
   ·intro h;simp at h
   ·intro _
    repeat refine c_r ?_
    refine rg1 h3 ?_
    refine zav ?_
    exact⟨m - 1,by omega,rfl,pre++ [n[j]],j,by rw[hxs];simp,by omega,by omega,vq0,(vq1 hs0),(vq1 hs1),hj',hKB.trans hk'⟩
  ·try simp only[go_sem]
   refine hK _ _ ?_;clear hK hgd;clear K;try clear gd
   repeat refine c_r ?_
   refine wc0 ?_ ?_
   ·intro _
    repeat refine c_r ?_
    refine zar (by simp) rfl (.inr ⟨_,_,_,hxs,hjx⟩)
   ·intro h;simp at h
 ·intro hge
  simp only[decide_eq_false_iff_not,ge_iff_le]at hge
  have hk0:k=0:=by omega
  subst hk0
  repeat refine c_r ?_
  refine zar (by simp) rfl (.inl ?_)
  rw[hd];simpa using hjj
theorem zh7{w:World}{nv:Value}(hn:∃a n c,nv= .slice a n c):
  Fn Tryz.prog 196 #[nv] w (fun v w'=>v= .func (.func 238) #[] #[.pointer (some ⟨w.heap.size,0,Option.none⟩)]∧Ext w w'∧w'.heap.size=w.heap.size+1∧w'.heap[w.heap.size]? =some (.cells #[nv] 24 (0,0))):=by
 obtain⟨an,nn,cn,rfl⟩:=hn
 refine enter Tryz.func196 Tryz.ntmps196 rfl rfl ?_
 repeat refine c_r ?_
 refine rg0 ?_
 repeat refine c_r ?_
 refine zap ?_
 intro w1 hE1 hs1 hA
 refine rg0 ?_
 repeat refine c_r ?_
 refine rt0 Tryz.ntmps196 ?_
 exact⟨rfl,hE1,hs1,hA⟩
theorem row_lt{w:World}{nv:Value}{l:List Value}(h:Row w nv l)(h0:l≠ []):∀a m c,nv= .slice (some a) m c→a.block<w.heap.size:=by
 intro a m c hv
 obtain⟨a',c',e,hc,hg⟩:=h
 rw[hv]at e
 injection e with e1
 have h1:=hg 0 (List.length_pos_iff.2 h0)
 rw[←e1]at h1
 have:=zcl (show w.cell? (a.add 0)=some _ from h1)
 rwa [zbS]at this
theorem NLen_ok(w:World)(nv:Value)(n:Nm)(hn:Row w nv (n.map vs))(hl:∀l∈n,l.length≤1000000000)(hnl:n.length≤1000000000):
  Fn Tryz.prog 130 #[nv] w (fun v w'=>v=vi (lenN n)∧Ext w w'):=by
 have hn0:=hn
 obtain⟨an,cn,hnv,_⟩:=id hn
 rw[hnv]
 refine enter Tryz.func130 Tryz.ntmps130 rfl rfl ?_
 repeat refine c_r ?_
 refine rg0 ?_
 repeat refine c_r ?_
 rw[←hnv]
 refine rq ?_;intro gd K hgd hK
 try simp only[go_sem]
 have hB3:=zaB w (.cells #[vi 0] 3 (0,0))
 have hE4:=Ext.alloc w (.cells #[vi 0] 3 (0,0))
 have hs4:=zaz w (.cells #[vi 0] 3 (0,0))
 revert hB3 hE4 hs4
 generalize w.alloc (.cells #[vi 0] 3 (0,0))=w1
 intro hB3 hE4 hs4
 refine zdq (P:=Tryz.prog) (t:=3) (j:=0) (l:=[vi 0]) hB3 (by simp) rfl rfl rfl ?_
 intro w2 hs2 hB2 hk2
 try simp only[go_sem]
 refine hK _ _ ?_;clear hK hgd;clear K;try clear gd
 simp only[List.set_cons_zero]at hB2
 have hE2:Ext w w2:=Keep.to_ext hE4 rfl (fun b hb=>by omega) hk2
 repeat refine c_r ?_
 refine rq ?_;intro gd K hgd hK
 try simp only[go_sem]
 refine Fn.mono (zh7 ⟨_,_,_,hnv⟩) ?_
 rintro _ w3 ⟨rfl,hE3,hs3,hbn⟩
 try simp only[go_sem]
 refine hK _ _ ?_;clear hK hgd;clear K;try clear gd
 have hE23:=hE2.trans hE3
 have hB2':=hE3.at hB2
 have hn3:=hn.ext hE23
 have hlt:n≠ []→∀a m c,nv= .slice (some a) m c→a.block<w.heap.size:=fun hnn=>row_lt hn (by simpa using hnn)
 repeat refine c_r ?_
 refine zcV (g:=238) (cap:=#[.pointer (some ⟨w2.heap.size,0,Option.none⟩)]) (vq0) rfl (labelsIt (C:=fun b=>b=w.heap.size) hbn hn3 (by omega) (fun h0 b hb _ a m c hv=>by have:=hlt h0 a m c hv;omega) (by omega) (fun h0 a m c hv=>by have:=hlt h0 a m c hv;omega)) (Keep.refl _ _) (Nat.le_refl _) (fun b hb=>by omega)
  (fun x A args h=>by rw[h];rfl)
  (fun pre A=>Ext w A∧A.heap[w.heap.size]? =some (.cells #[vi (1+(pre.map fun l=>1+l.length).sum:Nat)] 3 (0,0)))
  (fun _ _ _=>False) ?_ (fun _ _ _ _ h _=>h.elim) ?_ ?_ ?_ (fun _ _ _ _ _ _ _ h _=>h.elim)
 ·rintro pre A B ⟨h1,h2⟩ hk
  exact⟨Keep.to_ext h1 rfl (fun b hb=>by unfold two at hb;omega) hk,(hk.block _ (Array.getElem?_eq_some_iff.1 h2).1 (by unfold two;omega)).trans h2⟩
 ·exact⟨hE23,hB2'⟩
 ·rintro lp pre x suf A args hxs hszA ⟨hEA,hb⟩ rfl
  have hpl:pre.length+1≤n.length:=by
   have:=congrArg List.length hxs
   simp at this;omega
  have hpm:∀l∈pre,l.length≤1000000000:=fun l hl'=>hl l (List.mem_reverse.1 (by rw[hxs];simp[hl']))
  have hxm:x.length≤1000000000:=hl x (List.mem_reverse.1 (by rw[hxs];simp))
  have hsb:=zdr pre hpm
  have hsum:(((1+(pre.map fun l=>1+l.length).sum:Nat):Int))+(1+(x.length:Int))=((1+((pre++ [x]).map fun l=>1+l.length).sum:Nat):Int):=by
   rw[List.map_append,List.sum_append,List.map_cons,List.map_nil,List.sum_cons,List.sum_nil];omega
  have hs2':((1+(pre.map fun l=>1+l.length).sum:Nat):Int)≤2000000000000000000:=by omega
  refine rq ?_;intro gd K hgd hK
  try simp only[go_sem]
  refine hK _ _ ?_;clear hK hgd;clear K;try clear gd
  refine zav ?_
  refine⟨rfl,KeepB.refl _ _ _,fun Y hY=>?_⟩
  have hbY:=(hY.block _ (by omega) (by unfold two;omega)).trans hb
  have hEY:Ext w Y:=Keep.to_ext hEA rfl (fun b hb=>by unfold two at hb;omega) hY
  have hsY:=hY.size
  have q0:zag Y (some ⟨w.heap.size,0,Option.none⟩)=some (vi (1+(pre.map fun l=>1+l.length).sum:Nat)):=zad hbY rfl
  repeat refine c_r ?_
  refine rq ?_;intro gd K hgd hK
  try simp (disch:=first|omega|assumption|rfl) only[go_sem,q0,hsum]
  refine zdq (P:=Tryz.prog) (t:=3) (j:=0) (l:=[vi (1+(pre.map fun l=>1+l.length).sum:Nat)]) hbY (by simp) rfl rfl rfl ?_
  intro z hz hbz hkz
  try simp only[go_sem]
  refine hK _ _ ?_;clear hK hgd;clear K;try clear gd
  simp only[List.set_cons_zero]at hbz
  repeat refine c_r ?_
  exact⟨⟨Keep.to_ext hEY rfl (fun b hb=>by omega) hkz,hbz⟩,hkz.toB (by omega) (fun i _ h=>h)⟩
 ·intro A hszA ⟨hEA,hb⟩ hD
  have q0:zag A (some ⟨w.heap.size,0,Option.none⟩)=some (vi (1+(n.reverse.map fun l=>1+l.length).sum:Nat)):=zad hb rfl
  have hrev:(n.reverse.map fun l=>1+l.length).sum=(n.map fun l=>1+l.length).sum:=by rw[List.map_reverse,List.sum_reverse]
  rw[hrev]at q0
  repeat refine c_r ?_
  refine rg1 q0 ?_
  repeat refine c_r ?_
  refine zda (v:=vi (lenN n)) (.inr rfl) (by rfl) Tryz.ntmps130 (vr0) hD ?_
  intro Z hkZ hsZ
  exact⟨rfl,Keep.to_ext hEA rfl (fun b hb=>by omega) hkZ⟩
theorem zd9{n:Nm}{i:Nat}(hi:i<n.length)(h:∀j (h:j<n.length),j<i→errL n[j]=0)(he:errL n[i]≠0):zay n=errL n[i]:=by
 unfold zay
 have:n.find? (fun l=>decide (errL l≠0))=some n[i]:=by
  refine findL_at (pre:=n.take i) (suf:=n.drop (i+1)) (zbZ hi) (fun y hy=>?_) (by simpa using he)
  obtain⟨j,hj,rfl⟩:=List.getElem_of_mem hy
  rw[List.getElem_take]
  simp at hj
  simpa using h j (by omega) (by omega)
 rw[this]
theorem zdI{n:Nm}(h:∀j (h:j<n.length),errL n[j]=0):zay n=if 255<lenN n then 3 else 0:=by
 unfold zay
 have:n.find? (fun l=>decide (errL l≠0))=Option.none:=zg1 (fun y hy=>by
  obtain⟨j,hj,rfl⟩:=List.getElem_of_mem hy
  simpa using h j hj)
 rw[this]
theorem zcL(w:World)(nv:Value)(n:Nm)(hn:Row w nv (n.map vs))(hl:∀l∈n,l.length≤1000000000)(hnl:n.length≤1000000000):
  Fn Tryz.prog 52 #[nv] w (fun v w'=>v=vi (zay n)∧Ext w w'):=by
 have hn0:=hn
 obtain⟨an,cn,rfl,hcn,hgn⟩:=hn
 simp only[List.length_map]at hcn hgn hn0
 rw[List.length_map]
 refine enter Tryz.func52 Tryz.ntmps52 rfl rfl ?_
 repeat refine c_r ?_
 refine rg0 ?_
 repeat refine c_r ?_
 refine rg0 ?_
 repeat refine c_r ?_
 refine zaR (fun m σ ds A=>ds=[]∧∃(i:Nat),i+m=n.length∧σ 3=vi i∧σ 0= .slice an n.length cn∧Ext w A∧∀j (h:j<n.length),j<i→errL n[j]=0) n.length ?_ ?_
 ·exact⟨rfl,0,by omega,vr0,vq0,Keep.refl _ _,fun j h hj=>absurd hj (by omega)⟩
 rintro m σ ds A ⟨rfl,i,him,h3,h0,hEA,hlow⟩
 repeat refine c_r ?_
 refine rg2 h3 h0 ?_
 repeat refine c_r ?_
 refine wc0 ?_ ?_
 ·intro hlt
  simp only[decide_eq_true_eq]at hlt
  have hi:i<n.length:=by omega
  have hi0:(0:Int)≤(i:Int):=by omega
  have hi1:(i:Int)<(n.length:Int):=by omega
  have hi1':(i:Int)+1=((i+1:Nat):Int):=by push_cast;rfl
  have hg:=zaa hEA (hgn i (by simpa using hi))
  rw[List.getElem_map]at hg
  obtain⟨xn,rfl⟩:=Option.isSome_iff_exists.1 (zaj hg)
  repeat refine c_r ?_
  refine rq ?_;intro gd K hgd hK
  try simp (disch:=first|omega|assumption|rfl) only[go_sem,h0,h3,hi0,hi1,hg]
  refine Fn.mono (zdY A n[i] (by have:=hl n[i] (List.getElem_mem hi);omega)) ?_
  rintro _ A1 ⟨rfl,hE1⟩
  try simp only[go_sem]
  refine hK _ _ ?_;clear hK hgd;clear K;try clear gd
  repeat refine c_r ?_
  refine rg0 ?_
  repeat refine c_r ?_
  refine wc0 ?_ ?_
  ·intro hne
   simp only[Bool.not_eq_true',decide_eq_false_iff_not]at hne
   repeat (first|refine c_r ?_|refine rg0 ?_)
   refine rt0 Tryz.ntmps52 ?_
   exact⟨by rw[zd9 hi hlow hne],hEA.trans hE1⟩
  ·intro heq
   simp only[Bool.not_eq_false',decide_eq_true_eq]at heq
   repeat refine c_r ?_
   refine rg2 h3 hi1' ?_
   repeat refine c_r ?_
   refine⟨m - 1,by omega,rfl,i+1,by omega,vq0,(vq1 h0),hEA.trans hE1,fun j hj hji=>?_⟩
   by_cases hj2:j=i
   ·subst hj2;exact heq
   ·exact hlow j hj (by omega)
 ·intro hge
  simp only[decide_eq_false_iff_not]at hge
  have hgood:=zdI (n:=n) (fun j hj=>hlow j hj (by omega))
  repeat refine c_r ?_
  refine rq ?_;intro gd K hgd hK
  try simp (disch:=first|omega|assumption|rfl) only[go_sem,h0]
  refine Fn.mono (RLen_ok A _ n (hn0.ext hEA) hl hnl) ?_
  rintro _ A1 ⟨rfl,hE1⟩
  try simp only[go_sem]
  refine hK _ _ ?_;clear hK hgd;clear K;try clear gd
  repeat refine c_r ?_
  refine wc0 ?_ ?_
  ·intro hb
   simp only[decide_eq_true_eq]at hb
   repeat (first|refine c_r ?_|refine rg0 ?_)
   refine rt0 Tryz.ntmps52 ?_
   exact⟨by rw[hgood,if_pos (by omega)],hEA.trans hE1⟩
  ·intro hb
   simp only[decide_eq_false_iff_not]at hb
   repeat (first|refine c_r ?_|refine rg0 ?_)
   refine rt0 Tryz.ntmps52 ?_
   exact⟨by rw[hgood,if_neg (by omega)],hEA.trans hE1⟩
theorem zdU(w:World)(nv:Value)(n:Nm)(hn:Row w nv (n.map vs))(hl:∀l∈n,l.length≤1000000000)(hnl:n.length≤1000000000):
  Fn Tryz.prog 68 #[nv] w (fun v w'=>v=vi (zay n)∧Ext w w'):=by
 have hn0:=hn
 obtain⟨an,cn,rfl,hcn,hgn⟩:=hn
 simp only[List.length_map]at hcn hgn hn0
 rw[List.length_map]
 refine enter Tryz.func68 Tryz.ntmps68 rfl rfl ?_
 repeat refine c_r ?_
 refine rg0 ?_
 repeat refine c_r ?_
 refine rg0 ?_
 repeat refine c_r ?_
 refine zaR (fun m σ ds A=>ds=[]∧∃(i:Nat),i+m=n.length∧σ 8=vi i∧σ 7=vi n.length∧σ 6= .slice an n.length cn∧σ 0= .slice an n.length cn∧Ext w A∧∀j (h:j<n.length),j<i→errL n[j]=0) n.length ?_ ?_
 ·exact⟨rfl,0,by omega,vr0,vq0,vq0,vq0,Keep.refl _ _,fun j h hj=>absurd hj (by omega)⟩
 rintro m σ ds A ⟨rfl,i,him,h8,h7,h6,h0,hEA,hlow⟩
 repeat refine c_r ?_
 refine rg2 h8 h7 ?_
 repeat refine c_r ?_
 refine wc0 ?_ ?_
 ·intro hlt
  simp only[decide_eq_true_eq]at hlt
  have hi:i<n.length:=by omega
  have hi0:(0:Int)≤(i:Int):=by omega
  have hi1:(i:Int)<(n.length:Int):=by omega
  have hi1':(i:Int)+1=((i+1:Nat):Int):=by push_cast;rfl
  have hg:=zaa hEA (hgn i (by simpa using hi))
  rw[List.getElem_map]at hg
  obtain⟨xn,rfl⟩:=Option.isSome_iff_exists.1 (zaj hg)
  repeat refine c_r ?_
  refine rg5 h6 h8 hi0 hi1 hg ?_
  repeat refine c_r ?_
  refine rq ?_;intro gd K hgd hK
  try simp only[go_sem]
  refine Fn.mono (zfs A n[i] (by have:=hl n[i] (List.getElem_mem hi);omega)) ?_
  rintro _ A1 ⟨rfl,hE1⟩
  try simp only[go_sem]
  refine hK _ _ ?_;clear hK hgd;clear K;try clear gd
  repeat refine c_r ?_
  refine rg0 ?_
  repeat refine c_r ?_
  refine wc0 ?_ ?_
  ·intro hne
   simp only[Bool.not_eq_true',decide_eq_false_iff_not]at hne
   repeat (first|refine c_r ?_|refine rg0 ?_)
   refine rt0 Tryz.ntmps68 ?_
   exact⟨by rw[zd9 hi hlow hne],hEA.trans hE1⟩
  ·intro heq
   simp only[Bool.not_eq_false',decide_eq_true_eq]at heq
   repeat refine c_r ?_
   refine rg2 h8 hi1' ?_
   repeat refine c_r ?_
   refine⟨m - 1,by omega,rfl,i+1,by omega,vq0,(vq1 h7),(vq1 h6),(vq1 h0),hEA.trans hE1,fun j hj hji=>?_⟩
   by_cases hj2:j=i
   ·subst hj2;exact heq
   ·exact hlow j hj (by omega)
 ·intro hge
  simp only[decide_eq_false_iff_not]at hge
  have hgood:=zdI (n:=n) (fun j hj=>hlow j hj (by omega))
  repeat refine c_r ?_
  refine rq ?_;intro gd K hgd hK
  try simp (disch:=first|omega|assumption|rfl) only[go_sem,h0]
  refine Fn.mono (NLen_ok A _ n (hn0.ext hEA) hl hnl) ?_
  rintro _ A1 ⟨rfl,hE1⟩
  try simp only[go_sem]
  refine hK _ _ ?_;clear hK hgd;clear K;try clear gd
  repeat refine c_r ?_
  refine wc0 ?_ ?_
  ·intro hb
   simp only[decide_eq_true_eq]at hb
   repeat (first|refine c_r ?_|refine rg0 ?_)
   refine rt0 Tryz.ntmps68 ?_
   exact⟨by rw[hgood,if_pos (by omega)],hEA.trans hE1⟩
  ·intro hb
   simp only[decide_eq_false_iff_not]at hb
   repeat (first|refine c_r ?_|refine rg0 ?_)
   refine rt0 Tryz.ntmps68 ?_
   exact⟨by rw[hgood,if_neg (by omega)],hEA.trans hE1⟩
structure NmM(n:Nm):Prop where
 lb:∀l∈n,l.length≤1000000
 len:n.length≤1000000
theorem NmM.LB{n:Nm}(h:NmM n):LB n:=fun l hl=>by have:=h.lb l hl;omega
theorem row_atT{w:World}{v:Value}{ps:List Lab}(h:Row w v (ps.map vs)):∃a c,v= .slice a ps.length c∧∀i (hi:i<ps.length),∃x,a=some x∧zag w (adr (some x) i)=some (vs ps[i]):=by
 obtain⟨a,c,rfl,_,hg⟩:=h
 refine⟨a,c,by rw[List.length_map],fun i hi=>?_⟩
 have g:=hg i (by rw[List.length_map];exact hi)
 rw[List.getElem_map]at g
 obtain⟨x,rfl⟩:=Option.isSome_iff_exists.1 (zaj g)
 exact⟨x,rfl,g⟩
theorem lab_len(p:Lab):(labD p).1.length≤p.length:=by
 have:=zeK [46] 0 p []
 unfold labD
 split
 ·simpa using this
 ·simp
theorem zfE(f:Bool)(p:Lab)(l:List Lab)(out:Nm):zbJ f (p::l) out=if p=[]∧f=false∧l=[] then(out,true,0) else if (labD p).2=0 then zbJ false l (out++ [(labD p).1]) else([],false,(labD p).2):=by rw[zbJ]
theorem parts_ok(w:World)(s:Lab)(hl:s.length≤1000000000):Fn Tryz.prog 67 #[vs s] w (fun v w'=>Ext w w'∧∃sv,v= .tuple #[sv,.bool (zbh s).2.1,vi (zbh s).2.2]∧Own w.heap.size w' 9 sv ((zbh s).1.map vs)∧(zbh s).1.length≤s.length+1∧∀x∈(zbh s).1,x.length≤s.length):=by
 have hsl:=zdu s false []
 refine enter Tryz.func67 Tryz.ntmps67 rfl rfl ?_
 refine go trivial ?_
 refine rc trivial (ziM w s hl) ?_
 rintro _ w1 ⟨hE1,hv⟩
 unfold zbh
 rcases hv with ⟨h1,rfl⟩| ⟨h1,pv,rfl,hrow⟩
 ·rw[if_pos h1]
  refine rgo trivial ?_
  refine zaf (.inr rfl) Tryz.ntmps67 rfl (zac (vr0) (zac (vr0) (zac (vr0) zae))) ?_
  exact⟨hE1,_,rfl,Own.nil _ _ _,by simp,by simp⟩
 rw[h1,if_neg (by decide)]
 obtain⟨ps,hps⟩:∃ps,(splD false [] s).1=ps:=⟨_,rfl⟩
 rw[hps]at hrow hsl ⊢
 rw[List.length_nil]at hsl
 obtain⟨a,c,rfl,hg⟩:=row_atT hrow
 refine rgo trivial ?_
 refine rq ?_;intro gd K hgd hK
 try simp only[go_sem]
 refine zgz (z:=vs []) rfl rfl rfl rfl ?_
 intro w2 hE2 hs2 hown2
 try simp only[go_sem]
 refine hK _ _ ?_;clear hK hgd;clear K;try clear gd
 have hs1:=hE1.size
 have hE12:=hE1.trans hE2
 refine go trivial ?_
 refine zbq ps.length (fun i σ v=>(σ 5= .slice a ps.length c∧σ 21= .slice a ps.length c∧σ 22=vi ps.length∧σ 23=vi i)∧Ext w v∧Ext w1 v∧∃sv out,σ 7=sv∧Own w1.heap.size v 9 sv (out.map vs)∧out.length≤i∧(∀x∈out,x.length≤s.length)∧zbJ true ps []=zbJ (decide (i=0)) (ps.drop i) out) ?_ ?_ ?_
 ·exact⟨⟨vr0,vr0,vr0,vr0⟩,hE12,hE2,_,[],vr0,hown2,Nat.le_refl _,(fun x h=>by cases h),rfl⟩
 ·rintro i σ v hi r ⟨⟨s5,s21,s22,s23⟩,hE,hEv,sv,out,s7,hown,hol,hox,hpd⟩
  obtain⟨x,rfl,g0⟩:=hg i hi
  have g:=zaa hEv g0
  obtain⟨p,hp⟩:∃p,ps[i]=p:=⟨_,rfl⟩
  have hpl:p.length≤s.length:=by have:=hsl.2 p (hp▸List.getElem_mem hi);omega
  rw[hp]at g
  rw[List.drop_eq_getElem_cons hi,hp,zfE]at hpd
  have hi0:(0:Int)≤(i:Int):=by omega
  have hi1:(i:Int)<(ps.length:Int):=by omega
  have hi2:(i:Int)+1=((i+1:Nat):Int):=by push_cast;rfl
  refine go (an8 s5 s21 s22 s23 s7 r g (an2 hi0 hi1)) ?_
  refine zaM (Q:=fun e σ' ds' v'=>e= .normal∧ds'=[]∧v=v'∧(σ' 5= .slice (some x) ps.length c∧σ' 21= .slice (some x) ps.length c∧σ' 22=vi ps.length∧σ' 23=vi i∧σ' 7=sv∧σ' 9=vs p)∧σ' 40= .bool (decide (p=[]∧decide (i=0)=false∧ps.drop (i+1)=[]))) ?_ ?_
  ·by_cases c1:p=[]
   ·have d1:decide (p=[])=true:=decide_eq_true c1
    by_cases c2:i=0
    ·have d2:decide ((0:Int)<(i:Int))=false:=decide_eq_false (by omega)
     rw[show decide (p=[]∧decide (i=0)=false∧ps.drop (i+1)=[])=false from decide_eq_false fun h=>by have:=of_decide_eq_false h.2.1;omega]
     refine rgg [(2,30),(6,34)] (an7 s5 s21 s22 s23 s7 d1 d2) ?_
     exact⟨rfl,rfl,rfl,⟨(vq1 s5),(vq1 s21),(vq1 s22),(vq1 s23),(vq1 s7),vr0⟩,vr0⟩
    ·have d2:decide ((0:Int)<(i:Int))=true:=decide_eq_true (by omega)
     obtain⟨t,ht⟩:∃t,decide ((i:Int)=(ps.length:Int) - 1)=t:=⟨_,rfl⟩
     rw[show decide (p=[]∧decide (i=0)=false∧ps.drop (i+1)=[])=t from by
      rw[←ht]
      refine decide_eq_decide.2 ⟨fun h=>?_,fun h=>⟨c1,decide_eq_false c2,List.drop_of_length_le (by omega)⟩⟩
      have:=congrArg List.length h.2.2
      rw[List.length_drop,List.length_nil]at this
      omega]
     refine rgg [(2,30),(6,34)] (an8 s5 s21 s22 s23 s7 d1 d2 ht) ?_
     exact⟨rfl,rfl,rfl,⟨(vq1 s5),(vq1 s21),(vq1 s22),(vq1 s23),(vq1 s7),vr0⟩,vr0⟩
   ·have d1:decide (p=[])=false:=decide_eq_false c1
    rw[show decide (p=[]∧decide (i=0)=false∧ps.drop (i+1)=[])=false from decide_eq_false fun h=>c1 h.1]
    refine rgg [(2,30),(6,34)] (an6 s5 s21 s22 s23 s7 d1) ?_
    exact⟨rfl,rfl,rfl,⟨(vq1 s5),(vq1 s21),(vq1 s22),(vq1 s23),(vq1 s7),vr0⟩,vr0⟩
  rintro _ σ1 _ v1 ⟨rfl,rfl,hv1,⟨g5,g21,g22,g23,g7,g9⟩,g40⟩
  subst hv1
  by_cases hend:p=[]∧decide (i=0)=false∧ps.drop (i+1)=[]
  ·rw[if_pos hend]at hpd
   rw[decide_eq_true hend]at g40
   refine go (an2 g7 g40) ?_
   refine zaf (.inr rfl) Tryz.ntmps67 rfl (zac ((vr1 g7)) (zac (vr0) (zac (vr0) zae))) ?_
   rw[hpd]
   exact⟨hE,_,rfl,hown.mono hs1,by simp only;omega,hox⟩
  rw[if_neg hend]at hpd
  rw[decide_eq_false hend]at g40
  refine go (an2 g9 g40) ?_
  refine rc g9 (ziN v p (by omega)) ?_
  rintro _ v2 ⟨rfl,hE2'⟩
  by_cases he:(labD p).2=0
  ·have d3:decide ((labD p).2=0)=true:=decide_eq_true he
   rw[if_pos he]at hpd
   refine rgo d3 ?_
   have hsv:=hE.size
   have hsv1:=hEv.size
   have hsv2:=hE2'.size
   refine rq ?_;intro gd K hgd hK
   try simp (disch:=first|omega|assumption|rfl) only[go_sem,g7]
   refine zbE (z:=vs []) rfl rfl rfl rfl rfl ?_
   intro y1 hy1 hys1 hyo
   try simp (disch:=first|omega|assumption|rfl) only[go_sem,g7]
   have hxy:=hE2'.trans hy1
   have hsy:=hy1.size
   refine zbi (e:=9) (hown.ext hxy) hyo.row rfl rfl rfl rfl rfl rfl ((vr1 g7)) (vr0) (fun q hq=>by simp at hq;subst hq;rfl) (by simp;omega) (by decide) (by omega) ?_
   intro sv' y2 hown2' hX2 hK2 hb2
   try simp only[go_sem]
   refine hK _ _ ?_;clear hK hgd;clear K;try clear gd
   refine go (an5 g5 g21 g22 g23 hi2) ?_
   refine⟨rfl,⟨(vq1 g5),(vq1 g21),(vq1 g22),(vq1 hi2)⟩,hX2 w (hE.trans hxy) (by omega),hX2 w1 (hEv.trans hxy) (Nat.le_refl _),sv',out++ [(labD p).1],vr0,by rw[List.map_append];exact hown2',by simp;omega,fun y hy=>?_,?_⟩
   ·rcases List.mem_append.1 hy with hy|hy
    ·exact hox y hy
    ·rw[List.mem_singleton.1 hy];have:=lab_len p;omega
   ·rw[hpd,show decide (i+1=0)=false from rfl]
  ·have d3:decide ((labD p).2=0)=false:=decide_eq_false he
   rw[if_neg he]at hpd
   refine rgo d3 ?_
   refine zaf (.inr rfl) Tryz.ntmps67 rfl (zac (vr0) (zac (vr0) (zac (vr0) zae))) ?_
   rw[hpd]
   exact⟨hE.trans hE2',_,rfl,Own.nil _ _ _,by simp,by simp⟩
 ·rintro σ v r ⟨⟨s5,s21,s22,s23⟩,hE,hEv,sv,out,s7,hown,hol,hox,hpd⟩
  rw[List.drop_length,zbJ]at hpd
  refine go (an6 s5 s21 s22 s23 s7 r) ?_
  refine zaf (.inr rfl) Tryz.ntmps67 rfl (zac ((vr1 s7)) (zac (vr0) (zac (vr0) zae))) ?_
  rw[hpd]
  exact⟨hE,_,rfl,hown.mono hs1,by simp only;omega,hox⟩
theorem zgF{w:World}{v:Value}{l:List Value}(hr:Row w v l):Fn Tryz.prog 65 #[v] w (fun u w'=>Row w' u l∧Ext w w'∧∀x n k,u= .slice x n k→∃n' k',v= .slice x n' k'):=by
 obtain⟨a,c,rfl,hc,hl⟩:=hr
 refine enter Tryz.func65 Tryz.ntmps65 rfl rfl ?_
 repeat refine c_r ?_
 refine rg0 ?_
 repeat refine c_r ?_
 refine rq ?_;intro gd K hgd hK
 try simp only[go_sem]
 have hcl:slD Tryz.prog (some (TypeDesc.slice 9)) (Value.slice a l.length c) Option.none (some (Value.int IntKind.i64 ↑l.length)) (some (Value.int IntKind.i64 ↑l.length))=some (.slice a l.length l.length):=s_clip hc (by rfl)
 rw[hcl]
 try simp only[go_sem]
 refine hK _ _ ?_;clear hK hgd;clear K;try clear gd
 repeat refine c_r ?_
 refine rt0 Tryz.ntmps65 ?_
 exact⟨⟨a,l.length,rfl,Nat.le_refl _,hl⟩,Keep.refl _ _,fun x n k h=>by cases h;exact⟨_,_,rfl⟩⟩
theorem ziL(w:World)(s:Lab)(ov:Value)(o:Nm)(hl:s.length≤500000000)(ho:Row w ov (o.map vs))(hoT:NmT o):Fn Tryz.prog 18 #[vs s,ov] w (fun v w'=>Ext w w'∧∃nv,v= .tuple #[nv,vi (zgR s o).2]∧Row w' nv ((zgR s o).1.map vs)∧BlkB w.heap.size w' nv):=by
 have none_blk:∀z:World,BlkB w.heap.size z (.slice Option.none 0 0):=fun z a n c h=>by cases h
 have ho2:=hoT.2
 refine enter Tryz.func18 Tryz.ntmps18 rfl rfl ?_
 refine go trivial ?_
 unfold zgR
 by_cases h1:s=[64]
 ·have d1:decide (s=[64])=true:=decide_eq_true h1
  rw[if_pos h1]
  refine go d1 ?_
  refine rc trivial (ziU ho (by omega)) ?_
  rintro cv w1 ⟨hown,hE1⟩
  refine rd trivial (zgF hown.row) ?_
  rintro uv w2 ⟨hrow,hE2,hcl⟩
  refine rgo trivial ?_
  refine zaf (.inr rfl) Tryz.ntmps18 rfl (zac (vr0) (zac (vr0) zae)) ?_
  refine⟨hE1.trans hE2,_,rfl,hrow,fun a n c hv=>?_⟩
  obtain⟨n',k',hv'⟩:=hcl _ _ _ hv
  have h1:=hown.ge (b:=a.block) (by rw[hv'];rfl)
  exact⟨h1.1,by have:=hE2.size;omega⟩
 have d1:decide (s=[64])=false:=decide_eq_false h1
 rw[if_neg h1]
 by_cases h2:s=[46]
 ·have d2:decide (s=[46])=true:=decide_eq_true h2
  rw[if_pos h2]
  refine go (an2 d1 d2) ?_
  refine rq ?_;intro gd K hgd hK
  try simp only[go_sem]
  refine zgz (z:=vs []) rfl rfl rfl rfl ?_
  intro w2 hE2 hs2 hown2
  try simp only[go_sem]
  refine hK _ _ ?_;clear hK hgd;clear K;try clear gd
  refine go trivial ?_
  refine zaf (.inr rfl) Tryz.ntmps18 rfl (zac (vr0) (zac (vr0) zae)) ?_
  exact⟨hE2,_,rfl,hown2.row,hown2.blk⟩
 have d2:decide (s=[46])=false:=decide_eq_false h2
 rw[if_neg h2]
 by_cases h3:s=[]
 ·have d3:decide (s=[])=true:=decide_eq_true h3
  rw[if_pos h3]
  refine go (an3 d1 d2 d3) ?_
  refine zaf (.inr rfl) Tryz.ntmps18 rfl (zac (vr0) (zac (vr0) zae)) ?_
  exact⟨Keep.refl _ _,_,rfl,(Own.nil 0 _ 0).row,none_blk _⟩
 have d3:decide (s=[])=false:=decide_eq_false h3
 rw[if_neg h3]
 refine go (an3 d1 d2 d3) ?_
 refine rc trivial (parts_ok w s (by omega)) ?_
 rintro _ w1 ⟨hE1,sv,rfl,hown,hpl,hpx⟩
 obtain⟨⟨n,wh,e⟩,hq⟩:∃q,zbh s=q:=⟨_,rfl⟩
 rw[hq]at hown hpl hpx ⊢
 simp only at hown hpl hpx ⊢
 have hs1:=hE1.size
 by_cases he:e=0
 rotate_left
 ·have d4:decide (e=0)=false:=decide_eq_false he
  rw[if_neg he]
  refine rgo d4 ?_
  refine zaf (.inr rfl) Tryz.ntmps18 rfl (zac (vr0) (zac (vr0) zae)) ?_
  exact⟨hE1,_,rfl,(Own.nil 0 _ 0).row,none_blk _⟩
 have d4:decide (e=0)=true:=decide_eq_true he
 rw[if_pos he]
 refine rgo d4 ?_
 refine zaM (Q:=fun e' σ' ds' v'=>e'= .normal∧ds'=[]∧Ext w v'∧∃nv,σ' 6=nv∧Row v' nv ((n++if wh=true then [] else o).map vs)∧BlkB w.heap.size v' nv) ?_ ?_
 ·cases wh with
  |true=>
   refine go trivial ?_
   rw[if_pos rfl,List.append_nil]
   exact⟨rfl,rfl,hE1,_,vr0,hown.row,hown.blk⟩
  |false=>
   refine go trivial ?_
   rw[if_neg (by decide),List.map_append]
   refine rq ?_;intro gd K hgd hK
   try simp only[go_sem]
   refine zbi (e:=9) hown (ho.ext hE1) rfl rfl rfl rfl rfl rfl (vr0) (vr0) (fun q hq=>by obtain⟨_,_,rfl⟩:=List.mem_map.1 hq;rfl) (by simp;omega) (by decide) (by omega) ?_
   intro sv' y2 hown2' hX2 hK2 hb2
   try simp only[go_sem]
   refine hK _ _ ?_;clear hK hgd;clear K;try clear gd
   refine go trivial ?_
   exact⟨rfl,rfl,hX2 w hE1 (Nat.le_refl _),_,vr0,hown2'.row,hown2'.blk⟩
 rintro _ σ1 _ w2 ⟨rfl,rfl,hE2,nv,g6,hrow,hblk⟩
 obtain⟨m,hm⟩:∃m,(n++if wh=true then [] else o)=m:=⟨_,rfl⟩
 have hml:m.length≤1000000000∧∀l∈m,l.length≤1000000000:=by
  rw[←hm]
  cases wh with
  |true=>rw[if_pos rfl,List.append_nil];exact⟨by omega,fun l hl=>by have:=hpx l hl;omega⟩
  |false=>
   rw[if_neg (by decide),List.length_append]
   refine⟨by omega,fun l hl=>?_⟩
   rcases List.mem_append.1 hl with hl|hl
   ·have:=hpx l hl;omega
   ·have:=hoT.1 l hl;omega
 rw[hm]at hrow ⊢
 refine go g6 ?_
 refine rc g6 (zdU w2 nv m hrow hml.2 hml.1) ?_
 rintro _ w3 ⟨rfl,hE3⟩
 by_cases hc:zay m=0
 ·have d5:decide (zay m=0)=true:=decide_eq_true hc
  rw[if_pos hc]
  refine rgo (an2 d5 g6) ?_
  refine rc g6 (zgF (hrow.ext hE3)) ?_
  rintro uv w4 ⟨hr4,hE4,hcl⟩
  refine rgo trivial ?_
  refine zaf (.inr rfl) Tryz.ntmps18 rfl (zac (vr0) (zac (vr0) zae)) ?_
  refine⟨(hE2.trans hE3).trans hE4,_,rfl,hr4,fun a n' c hv=>?_⟩
  obtain⟨n2,k2,hv'⟩:=hcl _ _ _ hv
  have h1:=hblk _ _ _ hv'
  exact⟨h1.1,by have:=hE3.size;have:=hE4.size;omega⟩
 ·have d5:decide (zay m=0)=false:=decide_eq_false hc
  rw[if_neg hc]
  refine rgo d5 ?_
  refine zaf (.inr rfl) Tryz.ntmps18 rfl (zac (vr0) (zac (vr0) zae)) ?_
  exact⟨hE2.trans hE3,_,rfl,(Own.nil 0 _ 0).row,none_blk _⟩
def WdC(cs:List Value)(x:Lab×Bool):Prop:=cs=[vs x.1,.bool x.2]
theorem wd_shape:zeD 2 WdC:=⟨fun h=>by rw[h];rfl,fun h q hq=>by rw[h]at hq;simp at hq;rcases hq with rfl|rfl<;>rfl⟩
def zc4(e x:Int):Int:=if e=0 then x else e
structure Rdr(W0 w:World)(b:Nat)(ws:List (Lab×Bool))(ov:Value)(e:Int):Prop where
 ext:Ext W0 w
 low:W0.heap.size≤b
 at':∃wv,w.heap[b]? =some (.cells #[wv,ov,vi e] 162 (0,0))∧Rows 2 WdC W0 wv ws
 one:one ov=true
theorem Rdr.lt{W0 w:World}{b:Nat}{ws:List (Lab×Bool)}{ov:Value}{e:Int}(h:Rdr W0 w b ws ov e):b<w.heap.size:=by
 obtain⟨wv,h1,_⟩:=h.at'
 exact(Array.getElem?_eq_some_iff.1 h1).1
theorem Rdr.keep{W0 w x:World}{b:Nat}{ws:List (Lab×Bool)}{ov:Value}{e:Int}{S:Nat→Prop}(h:Rdr W0 w b ws ov e)(hk:Keep S w x)(hS:∀i,S i→W0.heap.size≤i∧¬i=b):Rdr W0 x b ws ov e:=by
 obtain⟨wv,h1,h2⟩:=h.at'
 exact⟨Keep.to_ext h.ext rfl (fun i hi=>(hS i hi).1) hk,h.low,⟨wv,(hk.block _ h.lt fun hs=>(hS _ hs).2 rfl).trans h1,h2⟩,h.one⟩
theorem Rdr.extx{W0 w x:World}{b:Nat}{ws:List (Lab×Bool)}{ov:Value}{e:Int}(h:Rdr W0 w b ws ov e)(hE:Ext w x):Rdr W0 x b ws ov e:=h.keep hE fun _ h=>h.elim
theorem zfN{W0 w:World}{b:Nat}{ws:List (Lab×Bool)}{ov:Value}{e:Int}(h:Rdr W0 w b ws ov e)(x:Int):Fn Tryz.prog 164 #[.pointer (some ⟨b,0,Option.none⟩),vi x] w (fun _ w'=>Rdr W0 w' b ws ov (zc4 e x)∧Keep (fun i=>i=b) w w'):=by
 obtain⟨wv,hb,hr⟩:=h.at'
 have c2:zag w (some ⟨b,2,Option.none⟩)=some (vi e):=zad hb rfl
 unfold zc4
 refine enter Tryz.func164 Tryz.ntmps164 rfl rfl ?_
 by_cases he:e=0
 ·have d1:decide (e=0)=true:=decide_eq_true he
  rw[if_pos he]
  refine go (an3 c2 d1 (Nat.zero_add 2)) ?_
  refine rq ?_;intro gd K hgd hK
  try simp (disch:=first|omega|assumption|rfl) only[go_sem,Nat.zero_add]
  refine zat (P:=Tryz.prog) rfl rfl rfl hb (by simp) (by simp) ?_
  intro w1 hs1 hb1 hk1
  try simp only[go_sem]
  refine hK _ _ ?_;clear hK hgd;clear K;try clear gd
  refine go trivial ?_
  exact zar (by simp) rfl ⟨⟨Keep.to_ext h.ext rfl (fun i hi=>by have:=h.low;omega) hk1,h.low,⟨wv,hb1,hr⟩,h.one⟩,hk1⟩
 ·have d1:decide (e=0)=false:=decide_eq_false he
  rw[if_neg he]
  refine go (an3 c2 d1 (Nat.zero_add 2)) ?_
  exact zar (by simp) rfl ⟨h,Keep.refl _ _⟩
theorem word_ok{W0 w:World}{b:Nat}{t:Lab}{q:Bool}{ws:List (Lab×Bool)}{ov:Value}{e:Int}(h:Rdr W0 w b ((t,q)::ws) ov e)(hl:ws.length≤1000000):Fn Tryz.prog 219 #[.pointer (some ⟨b,0,Option.none⟩)] w (fun v w'=>v=vs t∧Rdr W0 w' b ws ov (if q=true then zc4 e 2 else e)∧Keep (fun i=>i=b) w w'):=by
 obtain⟨wv,hb,hr⟩:=h.at'
 obtain⟨a,c,rfl,hc,hg⟩:=hr.open
 rw[List.length_cons]at hc
 obtain⟨cs,g0,hcs⟩:=hg 0 (by simp)
 simp only[List.getElem_cons_zero,Nat.zero_mul,zal]at g0 hcs
 unfold WdC at hcs
 subst hcs
 have g:=zai h.ext g0
 obtain⟨xa,rfl⟩:∃x,a=some x:=by
  cases a with
  |none=>cases g0
  |some x=>exact⟨x,rfl⟩
 have c0:zag w (some ⟨b,0,Option.none⟩)=some (.slice (some xa) (ws.length+1) c):=zad hb rfl
 have hdr:=hr.drop (m:=1) (by simp)
 rw[List.drop_one,List.tail_cons,List.length_cons]at hdr
 have l0:(0:Int)<((ws.length+1:Nat):Int):=by omega
 have l1:(1:Int)≤((ws.length+1:Nat):Int):=by omega
 have l2:(1:Int)≤(c:Int):=by omega
 refine enter Tryz.func219 Tryz.ntmps219 rfl rfl ?_
 refine go trivial ?_
 refine rq ?_;intro gd K hgd hK
 try simp (disch:=first|omega|assumption|rfl) only[go_sem,c0,l0,Int.toNat_zero,Nat.zero_mul,zal,g]
 refine zbg (P:=Tryz.prog) (l:=[vs t,.bool q]) rfl (fun v hv=>by simp at hv;rcases hv with rfl|rfl<;>rfl) rfl rfl ?_
 intro w1 hE1 hs1 hB1
 try simp only[go_sem]
 refine hK _ _ ?_;clear hK hgd;clear K;try clear gd
 have hb1:=Ext.at hE1 hb
 have c1:zag w1 (some ⟨b,0,Option.none⟩)=some (.slice (some xa) (ws.length+1) c):=zad hb1 rfl
 refine go trivial ?_
 refine rq ?_;intro gd K hgd hK
 try simp (disch:=first|omega|assumption|rfl) only[go_sem,c1,l1,l2]
 refine zat (P:=Tryz.prog) rfl rfl rfl hb1 (by simp) (by simp) ?_
 intro w2 hs2 hb2 hk2
 try simp only[go_sem]
 refine hK _ _ ?_;clear hK hgd;clear K;try clear gd
 have hlow:=h.low
 have hbl:=h.lt
 have hR2:Rdr W0 w2 b ws ov e:=⟨Keep.to_ext (h.ext.trans hE1) rfl (fun i hi=>by omega) hk2,h.low,⟨_,hb2,hdr⟩,h.one⟩
 have hk02:Keep (fun i=>i=b) w w2:=(hE1.mono fun _ _ h=>h.elim).trans hk2
 have hB2:=(hk2.block w.heap.size (by omega) (by omega)).trans hB1
 have t0:zag w2 (some ⟨w.heap.size,0,Option.none⟩)=some (vs t):=zaK (j:=0) hB2 rfl
 have t1:zag w2 (some ⟨w.heap.size,1,Option.none⟩)=some (.bool q):=zaK (j:=1) hB2 rfl
 cases q with
 |false=>
  refine go (an3 t0 t1 (Nat.zero_add 1)) ?_
  refine rt0 Tryz.ntmps219 ?_
  exact⟨rfl,hR2,hk02⟩
 |true=>
  refine go (an3 t0 t1 (Nat.zero_add 1)) ?_
  refine rc trivial (zfN hR2 2) ?_
  rintro _ w3 ⟨hR3,hk3⟩
  have u0:zag w3 (some ⟨w.heap.size,0,Option.none⟩)=some (vs t):=zaK (j:=0) ((hk3.block w.heap.size (by omega) (by omega)).trans hB2) rfl
  refine rgo u0 ?_
  refine rt0 Tryz.ntmps219 ?_
  exact⟨rfl,hR3,hk02.trans hk3⟩
def wF:Bool→Lab→Lab→Bool→List (Lab×Bool)
 |_,[],w,_=>if w=[] then [] else [(w,false)]
 |true,c::s,w,q=>wF false s (w++ [c]) q
 |false,c::s,w,q=>
  if c=92∧s≠ [] then wF true s (w++ [c]) q
  else if c=34 then(if q=true then(w,true)::wF false s [] false else wF false s w true)
  else if q=true then wF false s (w++ [c]) true
  else if c=32 then(if w=[] then wF false s [] false else(w,false)::wF false s [] false)
  else wF false s (w++ [c]) false
structure SplP(s:Lab)(ps:List Lab):Prop where
 sp:Lib.splitB ⟨#[46]⟩ 0 (Lib.countB ⟨s.toArray⟩ ⟨#[46]⟩) ⟨s.toArray⟩=ps.map fun l=>⟨l.toArray⟩
 ct:Lib.countB ⟨s.toArray⟩ ⟨#[46]⟩+1=ps.length
theorem ziG{w:World}(hW:WX w){s:Lab}{ps:List Lab}{n:Nat}(hs:s.length<4000000000)(h:SplP s ps)(hn:ps.length=n):
  Fn Tryz.prog 139 #[vs s,vs [46]] w (fun v w'=>v= .slice (some ⟨w.heap.size,0,Option.none⟩) n n∧w'.heap[w.heap.size]? =some (.cells (ps.map vs).toArray 9 (0,0))∧Ext w w'):=by
 obtain⟨m,hm⟩:=hW.ml
 refine Fn.of_calls ((Any.strings_Split Tryz.lays146 (by kernel_rfl) ⟨s.toArray⟩ ⟨#[46]⟩ m w (show s.toArray.size<_ by simp;omega) hm (by decide)).mono ?_)
 rintro _ w' ⟨he,rfl⟩
 subst hn
 rw[h.sp,h.ct,List.map_map]at*
 refine⟨_,he,rfl,?_,Ext.alloc w _⟩
 rw[World.alloc_heap_new]
 rfl
theorem Keep.own{S T:Nat→Prop}{a b c:World}(h:Keep S a b)(k:Keep T b c)(hT:∀i,i<a.heap.size→T i→S i):Keep S a c:=
 ((h.mono fun _ _ h=>Or.inl h).trans (k.mono fun _ _ h=>Or.inr h):Keep (fun i=>S i∨T i) a c).mono fun i hi h=>h.elim id (hT i hi)
def octP(p:Lab):Value:=zab (UInt8.ofNat (decP 255 p).1)
def zg3(e:Int)(ps:List Lab):Int:=ps.foldl (fun e p=>zc4 e (decP 255 p).2) e
theorem zhe{W0 w:World}{b:Nat}{t:Lab}{q:Bool}{ws:List (Lab×Bool)}{ov:Value}{e:Int}{ps:List Lab}(hW:WX W0)(h:Rdr W0 w b ((t,q)::ws) ov e)(hl:ws.length≤1000000)(ht:t.length≤1000000)(hsp:SplP t ps)(hpl:ps.length≤1000000)(hpx:∀p∈ps,p.length≤1000000):
  Fn Tryz.prog 167 #[.pointer (some ⟨b,0,Option.none⟩)] w (fun v w'=>Own w.heap.size w' 5 v (ps.map octP)∧Rdr W0 w' b ws ov (zg3 (if ps.length=4 then(if q=true then zc4 e 2 else e) else zc4 (if q=true then zc4 e 2 else e) 2) ps)∧Keep (fun i=>i=b) w w'):=by
 have hbl:=h.lt
 obtain⟨e1,he1⟩:∃e1,(if q=true then zc4 e 2 else e)=e1:=⟨_,rfl⟩
 refine enter Tryz.func167 Tryz.ntmps167 rfl rfl ?_
 refine go trivial ?_
 refine rc trivial (word_ok h hl) ?_
 rw[he1]
 rintro _ w1 ⟨rfl,hR1,hk1⟩
 refine rd trivial (ziG (n:=ps.length) (hW.ext hR1.ext) (by omega) hsp rfl) ?_
 rintro _ w2 ⟨rfl,hB2,hE2⟩
 have hs1:=hk1.size
 have hs2:=hE2.size
 have hP:w1.heap.size<w2.heap.size:=(Array.getElem?_eq_some_iff.1 hB2).1
 obtain⟨P,hPe⟩:∃P,w1.heap.size=P:=⟨_,rfl⟩
 rw[hPe]at hB2 hP ⊢
 have hk2:Keep (fun i=>i=b) w w2:=hk1.trans (hE2.mono fun _ _ h=>h.elim)
 obtain⟨n,hn⟩:∃n,ps.length=n:=⟨_,rfl⟩
 rw[hn]at hpl ⊢
 obtain⟨tt,htt⟩:∃tt,decide ((n:Int)=4)=tt:=⟨_,rfl⟩
 obtain⟨e2,he2⟩:∃e2,(if n=4 then e1 else zc4 e1 2)=e2:=⟨_,rfl⟩
 rw[he2]
 refine rgo htt ?_
 refine zaM (Q:=fun e' σ' ds' v'=>e'= .normal∧ds'=[]∧(σ' 0= .pointer (some ⟨b,0,Option.none⟩)∧σ' 3= .slice (some ⟨P,0,Option.none⟩) n n)∧Rdr W0 v' b ws ov e2∧Keep (fun i=>i=b) w2 v') ?_ ?_
 ·cases tt with
  |true=>
   rw[if_pos (by have:=of_decide_eq_true htt;omega)]at he2
   refine go trivial ?_
   exact⟨rfl,rfl,⟨vr0,vr0⟩,by rw[←he2];exact hR1.extx hE2,Keep.refl _ _⟩
  |false=>
   rw[if_neg (by have:=of_decide_eq_false htt;omega)]at he2
   refine go trivial ?_
   refine rc trivial (zfN (hR1.extx hE2) 2) ?_
   rw[he2]
   rintro _ w3 ⟨hR3,hk3⟩
   refine rgo trivial ?_
   exact⟨rfl,rfl,⟨vr0,vr0⟩,hR3,hk3⟩
 rintro _ σ0 _ w3 ⟨rfl,rfl,⟨s0,s3⟩,hR3,hk3⟩
 refine go (an2 s0 s3) ?_
 refine zbq n (fun i σ v=>(σ 0= .pointer (some ⟨b,0,Option.none⟩)∧σ 17= .slice (some ⟨P,0,Option.none⟩) n n∧σ 18=vi n∧σ 19=vi i)∧Rdr W0 v b ws ov (zg3 e2 (ps.take i))∧Keep (fun i=>i=b) w2 v∧∃sv,σ 4=sv∧Own w2.heap.size v 5 sv ((ps.take i).map octP)) ?_ ?_ ?_
 ·exact⟨⟨(vr1 s0),(vr1 s3),(vr1 s3),vr0⟩,hR3,hk3,_,vr0,Own.nil _ _ _⟩
 ·rintro i σ v hi r ⟨⟨s0,s17,s18,s19⟩,hR,hk,sv,s4,hown⟩
  obtain⟨p,hp⟩:∃p,ps[i]'(by omega)=p:=⟨_,rfl⟩
  have hpm:p∈ps:=hp▸List.getElem_mem _
  have hpl':=hpx p hpm
  have hsv:=hk.size
  have hBv:=(hk.block P hP (by omega)).trans hB2
  have g:zag v (some ⟨P,i,Option.none⟩)=some (vs p):=zaK (j:=i) hBv (by rw[List.getElem?_map,List.getElem?_eq_getElem (by omega),hp];rfl)
  have hi0:(0:Int)≤(i:Int):=by omega
  have hi1:(i:Int)<(n:Int):=by omega
  have hi2:(i:Int)+1=((i+1:Nat):Int):=by push_cast;rfl
  refine go (an9 s0 s17 s18 s19 s4 r g hi0 (an3 hi1 (Nat.mul_one i) (Nat.zero_add i))) ?_
  refine rc (an3 s0 s4 hi0) (zed (hW.ext hR.ext) p 255 (by omega) (by omega)) ?_
  rintro _ v1 ⟨rfl,hE1⟩
  refine rgo (an3 s0 s4 hi0) ?_
  refine rc (an3 s0 s4 hi0) (zfN (hR.extx hE1) (decP 255 p).2) ?_
  rintro _ v2 ⟨hR2,hk2'⟩
  have hdl:=decP_le 255 p
  obtain⟨x,hx⟩:∃x,(decP 255 p).1=x:=⟨_,rfl⟩
  rw[hx]at hdl
  have hox:octP p= .int .u8 (x:Int):=by unfold octP;rw[hx,zb8 (by omega)]
  have hsE:=hE1.size
  have hsk:=hk2'.size
  refine rgo (an3 s0 s4 hx) ?_
  refine rq ?_;intro gd K hgd hK
  try simp (disch:=first|omega|assumption|rfl) only[go_sem,s4,hx]
  refine zbE (z:= .int .u8 0) rfl rfl rfl rfl rfl ?_
  intro y1 hy1 hys1 hyo
  try simp (disch:=first|omega|assumption|rfl) only[go_sem,s4]
  have hb2:b<w2.heap.size:=by omega
  refine zbi (e:=5) (((hown.ext hE1).keep hk2' fun j hj hs=>by have:=(hown.ge hj).1;omega).ext hy1) hyo.row rfl rfl rfl rfl rfl rfl ((vr1 s4)) (vr0) (fun q hq=>by rw[List.mem_singleton.1 hq];rfl) (by simp;omega) (by decide) (by omega) ?_
  intro sv' y2 hown2 hX2 hK2 hb2'
  try simp only[go_sem]
  refine hK _ _ ?_;clear hK hgd;clear K;try clear gd
  refine go (an5 s0 s17 s18 s19 hi2) ?_
  have hkx:Keep (fun i=>i=b) w2 y1:=((hk.trans (hE1.mono fun _ _ h=>h.elim)).trans hk2').trans (hy1.mono fun _ _ h=>h.elim)
  refine⟨rfl,⟨(vq1 s0),(vq1 s17),(vq1 s18),(vq1 hi2)⟩,?_,hkx.own hK2 fun j hj h=>by have:=(hown.ge h).1;omega,sv',vr0,?_⟩
  ·rw[zan (by omega),hp]
   unfold zg3 at hR2 ⊢
   rw[List.foldl_append]
   exact(hR2.extx hy1).keep hK2 fun j hj=>by have:=(hown.ge hj).1;have:=h.low;omega
  ·rw[zan (by omega),hp,List.map_append,List.map_cons,List.map_nil,hox]
   exact hown2
 ·rintro σ v r ⟨⟨s0,s17,s18,s19⟩,hR,hk,sv,s4,hown⟩
  rw[←hn,List.take_length]at hR hown
  refine go (an6 s0 s17 s18 s19 s4 r) ?_
  refine zaf (.inr rfl) Tryz.ntmps167 rfl (zac ((vr1 s4)) zae) ?_
  exact⟨hown.mono (by omega),hR,hk2.trans hk⟩
def zaZ(t:Int):Int×Int×Int×Int:=if t=1 then(0,0,0,4) else if t=28 then(0,0,0,16) else if t=15 then(1,1,0,0) else if t=6 then(2,5,0,0) else if t=16 then(0,0, -1,0) else if t=2∨t=5∨t=12∨t=39 then(1,0,0,0) else(0,0,0, -1)
def shapeV(x:Int×Int×Int×Int):Value:= .agg #[vi x.1,vi x.2.1,vi x.2.2.1,vi x.2.2.2]
theorem zdC(a b c d:Int):∀v∈ [vi a,vi b,vi c,vi d],one v=true:=fun v h=>by
 simp at h
 rcases h with rfl|rfl|rfl|rfl<;>rfl
theorem of_ok(w:World)(t:Int):Fn Tryz.prog 146 #[vi t] w (fun v w'=>v=shapeV (zaZ t)∧Ext w w'):=by
 refine enter Tryz.func146 Tryz.ntmps146 rfl rfl ?_
 refine go trivial ?_
 refine zap ?_
 intro w1 hE1 hs1 hA
 unfold zaZ
 by_cases h0:t=1
 ·have d0:decide (t=1)=true:=decide_eq_true h0
  rw[if_pos h0]
  refine go d0 ?_
  refine rq ?_;intro gd K hgd hK
  try simp only[go_sem]
  refine⟨by kernel_rfl,?_⟩
  rw[show bdV Tryz.prog 218 [(3,vi 4)]=some (.agg #[vi 0,vi 0,vi 0,vi 4]) from by kernel_rfl]
  try simp only[go_sem]
  refine za1 (P:=Tryz.prog) (t:=218) (l:=[vi 0,vi 0,vi 0,vi 4]) hA rfl (zdC _ _ _ _) rfl rfl ?_
  intro w2 hs2 hB2 hk2
  try simp only[go_sem]
  refine hK _ _ ?_;clear hK hgd;clear K;try clear gd
  refine go trivial ?_
  refine zaf (.inr rfl) Tryz.ntmps146 rfl (zaS (x:=⟨w.heap.size,0,Option.none⟩) (k:=4) (vr0) rfl rfl (zam hB2 rfl) zae) ?_
  exact⟨rfl,Keep.to_ext hE1 rfl (fun b hb=>by omega) hk2⟩
 have d0:decide (t=1)=false:=decide_eq_false h0
 rw[if_neg h0]
 by_cases h1:t=28
 ·have d1:decide (t=28)=true:=decide_eq_true h1
  rw[if_pos h1]
  refine go (an2 d0 d1) ?_
  refine rq ?_;intro gd K hgd hK
  try simp only[go_sem]
  refine⟨by kernel_rfl,?_⟩
  rw[show bdV Tryz.prog 218 [(3,vi 16)]=some (.agg #[vi 0,vi 0,vi 0,vi 16]) from by kernel_rfl]
  try simp only[go_sem]
  refine za1 (P:=Tryz.prog) (t:=218) (l:=[vi 0,vi 0,vi 0,vi 16]) hA rfl (zdC _ _ _ _) rfl rfl ?_
  intro w2 hs2 hB2 hk2
  try simp only[go_sem]
  refine hK _ _ ?_;clear hK hgd;clear K;try clear gd
  refine go trivial ?_
  refine zaf (.inr rfl) Tryz.ntmps146 rfl (zaS (x:=⟨w.heap.size,0,Option.none⟩) (k:=4) (vr0) rfl rfl (zam hB2 rfl) zae) ?_
  exact⟨rfl,Keep.to_ext hE1 rfl (fun b hb=>by omega) hk2⟩
 have d1:decide (t=28)=false:=decide_eq_false h1
 rw[if_neg h1]
 by_cases h2:t=15
 ·have d2:decide (t=15)=true:=decide_eq_true h2
  rw[if_pos h2]
  refine go (an3 d0 d1 d2) ?_
  refine rq ?_;intro gd K hgd hK
  try simp only[go_sem]
  refine⟨by kernel_rfl,?_⟩
  rw[show bdV Tryz.prog 218 [(0,vi 1),(1,vi 1)]=some (.agg #[vi 1,vi 1,vi 0,vi 0]) from by kernel_rfl]
  try simp only[go_sem]
  refine za1 (P:=Tryz.prog) (t:=218) (l:=[vi 1,vi 1,vi 0,vi 0]) hA rfl (zdC _ _ _ _) rfl rfl ?_
  intro w2 hs2 hB2 hk2
  try simp only[go_sem]
  refine hK _ _ ?_;clear hK hgd;clear K;try clear gd
  refine go trivial ?_
  refine zaf (.inr rfl) Tryz.ntmps146 rfl (zaS (x:=⟨w.heap.size,0,Option.none⟩) (k:=4) (vr0) rfl rfl (zam hB2 rfl) zae) ?_
  exact⟨rfl,Keep.to_ext hE1 rfl (fun b hb=>by omega) hk2⟩
 have d2:decide (t=15)=false:=decide_eq_false h2
 rw[if_neg h2]
 by_cases h3:t=6
 ·have d3:decide (t=6)=true:=decide_eq_true h3
  rw[if_pos h3]
  refine go (an4 d0 d1 d2 d3) ?_
  refine rq ?_;intro gd K hgd hK
  try simp only[go_sem]
  refine⟨by kernel_rfl,?_⟩
  rw[show bdV Tryz.prog 218 [(0,vi 2),(1,vi 5)]=some (.agg #[vi 2,vi 5,vi 0,vi 0]) from by kernel_rfl]
  try simp only[go_sem]
  refine za1 (P:=Tryz.prog) (t:=218) (l:=[vi 2,vi 5,vi 0,vi 0]) hA rfl (zdC _ _ _ _) rfl rfl ?_
  intro w2 hs2 hB2 hk2
  try simp only[go_sem]
  refine hK _ _ ?_;clear hK hgd;clear K;try clear gd
  refine go trivial ?_
  refine zaf (.inr rfl) Tryz.ntmps146 rfl (zaS (x:=⟨w.heap.size,0,Option.none⟩) (k:=4) (vr0) rfl rfl (zam hB2 rfl) zae) ?_
  exact⟨rfl,Keep.to_ext hE1 rfl (fun b hb=>by omega) hk2⟩
 have d3:decide (t=6)=false:=decide_eq_false h3
 rw[if_neg h3]
 by_cases h4:t=16
 ·have d4:decide (t=16)=true:=decide_eq_true h4
  rw[if_pos h4]
  refine go (an5 d0 d1 d2 d3 d4) ?_
  refine rq ?_;intro gd K hgd hK
  try simp only[go_sem]
  refine⟨by kernel_rfl,?_⟩
  rw[show bdV Tryz.prog 218 [(2,vi (-1))]=some (.agg #[vi 0,vi 0,vi (-1),vi 0]) from by kernel_rfl]
  try simp only[go_sem]
  refine za1 (P:=Tryz.prog) (t:=218) (l:=[vi 0,vi 0,vi (-1),vi 0]) hA rfl (zdC _ _ _ _) rfl rfl ?_
  intro w2 hs2 hB2 hk2
  try simp only[go_sem]
  refine hK _ _ ?_;clear hK hgd;clear K;try clear gd
  refine go trivial ?_
  refine zaf (.inr rfl) Tryz.ntmps146 rfl (zaS (x:=⟨w.heap.size,0,Option.none⟩) (k:=4) (vr0) rfl rfl (zam hB2 rfl) zae) ?_
  exact⟨rfl,Keep.to_ext hE1 rfl (fun b hb=>by omega) hk2⟩
 have d4:decide (t=16)=false:=decide_eq_false h4
 rw[if_neg h4]
 by_cases h5:t=2
 ·have d5:decide (t=2)=true:=decide_eq_true h5
  rw[if_pos (show t=2∨t=5∨t=12∨t=39 by omega)]
  refine go (an6 d0 d1 d2 d3 d4 d5) ?_
  refine rq ?_;intro gd K hgd hK
  try simp only[go_sem]
  refine⟨by kernel_rfl,?_⟩
  rw[show bdV Tryz.prog 218 [(0,vi 1)]=some (.agg #[vi 1,vi 0,vi 0,vi 0]) from by kernel_rfl]
  try simp only[go_sem]
  refine za1 (P:=Tryz.prog) (t:=218) (l:=[vi 1,vi 0,vi 0,vi 0]) hA rfl (zdC _ _ _ _) rfl rfl ?_
  intro w2 hs2 hB2 hk2
  try simp only[go_sem]
  refine hK _ _ ?_;clear hK hgd;clear K;try clear gd
  refine go trivial ?_
  refine zaf (.inr rfl) Tryz.ntmps146 rfl (zaS (x:=⟨w.heap.size,0,Option.none⟩) (k:=4) (vr0) rfl rfl (zam hB2 rfl) zae) ?_
  exact⟨rfl,Keep.to_ext hE1 rfl (fun b hb=>by omega) hk2⟩
 have d5:decide (t=2)=false:=decide_eq_false h5
 by_cases h6:t=5
 ·have d6:decide (t=5)=true:=decide_eq_true h6
  rw[if_pos (show t=2∨t=5∨t=12∨t=39 by omega)]
  refine go (an7 d0 d1 d2 d3 d4 d5 d6) ?_
  refine rq ?_;intro gd K hgd hK
  try simp only[go_sem]
  refine⟨by kernel_rfl,?_⟩
  rw[show bdV Tryz.prog 218 [(0,vi 1)]=some (.agg #[vi 1,vi 0,vi 0,vi 0]) from by kernel_rfl]
  try simp only[go_sem]
  refine za1 (P:=Tryz.prog) (t:=218) (l:=[vi 1,vi 0,vi 0,vi 0]) hA rfl (zdC _ _ _ _) rfl rfl ?_
  intro w2 hs2 hB2 hk2
  try simp only[go_sem]
  refine hK _ _ ?_;clear hK hgd;clear K;try clear gd
  refine go trivial ?_
  refine zaf (.inr rfl) Tryz.ntmps146 rfl (zaS (x:=⟨w.heap.size,0,Option.none⟩) (k:=4) (vr0) rfl rfl (zam hB2 rfl) zae) ?_
  exact⟨rfl,Keep.to_ext hE1 rfl (fun b hb=>by omega) hk2⟩
 have d6:decide (t=5)=false:=decide_eq_false h6
 by_cases h7:t=12
 ·have d7:decide (t=12)=true:=decide_eq_true h7
  rw[if_pos (show t=2∨t=5∨t=12∨t=39 by omega)]
  refine go (an8 d0 d1 d2 d3 d4 d5 d6 d7) ?_
  refine rq ?_;intro gd K hgd hK
  try simp only[go_sem]
  refine⟨by kernel_rfl,?_⟩
  rw[show bdV Tryz.prog 218 [(0,vi 1)]=some (.agg #[vi 1,vi 0,vi 0,vi 0]) from by kernel_rfl]
  try simp only[go_sem]
  refine za1 (P:=Tryz.prog) (t:=218) (l:=[vi 1,vi 0,vi 0,vi 0]) hA rfl (zdC _ _ _ _) rfl rfl ?_
  intro w2 hs2 hB2 hk2
  try simp only[go_sem]
  refine hK _ _ ?_;clear hK hgd;clear K;try clear gd
  refine go trivial ?_
  refine zaf (.inr rfl) Tryz.ntmps146 rfl (zaS (x:=⟨w.heap.size,0,Option.none⟩) (k:=4) (vr0) rfl rfl (zam hB2 rfl) zae) ?_
  exact⟨rfl,Keep.to_ext hE1 rfl (fun b hb=>by omega) hk2⟩
 have d7:decide (t=12)=false:=decide_eq_false h7
 by_cases h8:t=39
 ·have d8:decide (t=39)=true:=decide_eq_true h8
  rw[if_pos (show t=2∨t=5∨t=12∨t=39 by omega)]
  refine go (an9 d0 d1 d2 d3 d4 d5 d6 d7 d8) ?_
  refine rq ?_;intro gd K hgd hK
  try simp only[go_sem]
  refine⟨by kernel_rfl,?_⟩
  rw[show bdV Tryz.prog 218 [(0,vi 1)]=some (.agg #[vi 1,vi 0,vi 0,vi 0]) from by kernel_rfl]
  try simp only[go_sem]
  refine za1 (P:=Tryz.prog) (t:=218) (l:=[vi 1,vi 0,vi 0,vi 0]) hA rfl (zdC _ _ _ _) rfl rfl ?_
  intro w2 hs2 hB2 hk2
  try simp only[go_sem]
  refine hK _ _ ?_;clear hK hgd;clear K;try clear gd
  refine go trivial ?_
  refine zaf (.inr rfl) Tryz.ntmps146 rfl (zaS (x:=⟨w.heap.size,0,Option.none⟩) (k:=4) (vr0) rfl rfl (zam hB2 rfl) zae) ?_
  exact⟨rfl,Keep.to_ext hE1 rfl (fun b hb=>by omega) hk2⟩
 have d8:decide (t=39)=false:=decide_eq_false h8
 rw[if_neg (show¬(t=2∨t=5∨t=12∨t=39) by omega)]
 refine go (an9 d0 d1 d2 d3 d4 d5 d6 d7 d8) ?_
 refine rq ?_;intro gd K hgd hK
 try simp only[go_sem]
 refine⟨by kernel_rfl,?_⟩
 rw[show bdV Tryz.prog 218 [(3,vi (-1))]=some (.agg #[vi 0,vi 0,vi 0,vi (-1)]) from by kernel_rfl]
 try simp only[go_sem]
 refine za1 (P:=Tryz.prog) (t:=218) (l:=[vi 0,vi 0,vi 0,vi (-1)]) hA rfl (zdC _ _ _ _) rfl rfl ?_
 intro w2 hs2 hB2 hk2
 try simp only[go_sem]
 refine hK _ _ ?_;clear hK hgd;clear K;try clear gd
 refine go trivial ?_
 refine zaf (.inr rfl) Tryz.ntmps146 rfl (zaS (x:=⟨w.heap.size,0,Option.none⟩) (k:=4) (vr0) rfl rfl (zam hB2 rfl) zae) ?_
 exact⟨rfl,Keep.to_ext hE1 rfl (fun b hb=>by omega) hk2⟩
def txD(d:DatL):Int:=if (zaZ d.ty).2.2.1<0 then min (max (d.texts.length:Int) 1) 32 else(zaZ d.ty).2.2.1
def rwD(d:DatL):Int:=if (zaZ d.ty).2.2.2<0 then(d.raw.length:Int) else(zaZ d.ty).2.2.2
def zgY(d:DatL):Bool:=decide ((d.names.length:Int)=(zaZ d.ty).1) && decide ((d.nums.length:Int)=(zaZ d.ty).2.1) && decide ((d.texts.length:Int)=txD d) && decide ((d.raw.length:Int)=rwD d)
def longT(ts:List Lab):Bool:=ts.any fun t=>decide (255<t.length)
def zgy(d:DatL):Int:=if d.ty<1∨65535<d.ty then 6 else if zgY d=false then 2 else match d.names.find? (fun n=>decide (zay n≠0)) with
 |some n=>zay n
 |Option.none=>if d.ty=15∧65535<d.nums.headD 0 then 7 else if 1024<d.raw.length∨longT d.texts=true then 3 else 0
theorem DatAt.cells{w0:World}{cs:List Value}{d:DatL}(h:DatAt w0 cs d):∃nm,cs[0]? =some (vi d.ty)∧cs[1]? =some nm∧NamesAt w0 nm d.names:=by
 obtain⟨nm,nu,tx,rw',rfl,h1,_⟩:=h.ex
 exact⟨nm,rfl,rfl,h1⟩
section
variable {P : Program} {d : Option Tmp} {ty : TypeId} {ps : String} {af : Array Edge} {g : Option (Nat × Bool)} {ρ : Operand → Value} {w : World} {K : Value → World → Prop}
end
theorem zgW{d:DatL}(hf:zgY d=true):(d.names.length:Int)=(zaZ d.ty).1∧(d.nums.length:Int)=(zaZ d.ty).2.1∧(d.texts.length:Int)=txD d∧(d.raw.length:Int)=rwD d:=by
 unfold zgY at hf
 simp only[Bool.and_eq_true,decide_eq_true_eq]at hf
 exact⟨hf.1.1.1,hf.1.1.2,hf.1.2,hf.2⟩
theorem ze3{α:Type}{l:List α}(h:(l.length:Int)=0):l=[]:=List.length_eq_zero_iff.1 (by omega)
theorem zih{d:DatL}(hf:zgY d=true){a c r:Int}(h:zaZ d.ty=(a,c,0,r)):(d.names.length:Int)=a∧(d.nums.length:Int)=c∧d.texts=[]∧(0≤r→(d.raw.length:Int)=r):=by
 obtain⟨h1,h2,h3,h4⟩:=zgW hf
 unfold txD at h3
 unfold rwD at h4
 rw[h]at h1 h2 h3 h4
 exact⟨h1,h2,ze3 h3,fun hr=>by rw[if_neg (by simp only;omega)]at h4;exact h4⟩
theorem join_one(sep x:Lab):za6 sep [x]=x:=by simp[za6]
theorem zg7(l:List UInt8):zaH 1 l=l.map fun c=>[c]:=by
 refine List.ext_getElem (by rw[zb5];simp) fun i h1 h2=>?_
 rw[zd8]
 have hi:i<l.length:=by simpa using h2
 rw[List.getElem_map,Nat.mul_one,List.drop_eq_getElem_cons hi]
 rfl
theorem tx_one{d:DatL}(hf:zgY d=true)(ht:d.ty=1):zeN hexU d=za6 [46] (d.raw.map fun c=>Lib.decDigits c.toNat):=by
 obtain⟨h1,h2,h3,h4⟩:=zih hf (a:=0) (c:=0) (r:=4) (by rw[ht];rfl)
 have e1:=ze3 h1
 have e2:=ze3 h2
 unfold zeN zbK zbO zef zcv
 rw[e1,e2,h3,ht]
 simp only[List.map_nil,ite_self,List.append_nil,List.nil_append,if_true]
 rw[join_one]
 unfold zcf
 rw[zg7,List.map_map]
 congr 1
 refine List.map_congr_left fun c _=>?_
 show Lib.decDigits (0*256+c.toNat)=_
 rw[Nat.zero_mul,Nat.zero_add]
theorem ix_at(c:UInt8)(r:Lab):∀p:Lab,c∉p→Lib.index (p++c::r) [c]=(p.length:Int)
 | [],_=>by
  show Lib.index (c::r) [c]=0
  rw[Lib.index];simp[List.isPrefixOf]
 |b::p,h=>by
  have hb:¬c=b:=fun e=>h (by rw[e];exact List.mem_cons_self ..)
  have ih:=ix_at c r p fun e=>h (List.mem_cons_of_mem _ e)
  show Lib.index (b::(p++c::r)) [c]=_
  rw[Lib.index,ih]
  have hp:([c]:List UInt8).isPrefixOf (b::(p++c::r))=false:=by simp[List.isPrefixOf,hb]
  have hn:¬((p.length:Int)== -1)=true:=fun e=>by have:=beq_iff_eq.1 e;omega
  rw[hp,if_neg (by decide),if_neg hn,List.length_cons]
  omega
structure SplC(c:UInt8)(s:Lab)(ps:List Lab):Prop where
 sp:Lib.splitB ⟨#[c]⟩ 0 (Lib.countB ⟨s.toArray⟩ ⟨#[c]⟩) ⟨s.toArray⟩=ps.map fun l=>⟨l.toArray⟩
 ct:Lib.countB ⟨s.toArray⟩ ⟨#[c]⟩+1=ps.length
theorem ex_front(p r:Lab):(⟨(p++r).toArray⟩:ByteArray).extract 0 (p.length+0)=⟨p.toArray⟩:=by
 apply ByteArray.ext
 rw[ByteArray.data_extract]
 simp
theorem ex_back(p:Lab)(c:UInt8)(r:Lab):(⟨(p++c::r).toArray⟩:ByteArray).extract (p.length+(⟨#[c]⟩:ByteArray).size) (⟨(p++c::r).toArray⟩:ByteArray).size=⟨r.toArray⟩:=by
 have e1:(⟨#[c]⟩:ByteArray).size=1:=rfl
 have e2:(⟨(p++c::r).toArray⟩:ByteArray).size=p.length+1+r.length:=by
  show(p++c::r).toArray.size=_
  simp;omega
 rw[e1,e2]
 apply ByteArray.ext
 rw[ByteArray.data_extract]
 apply Array.toList_inj.1
 simp
theorem zfJ(sep p q:Lab)(r:List Lab):za6 sep (p::q::r)=p++(sep++za6 sep (q::r)):=by
 simp[za6]
theorem zib{sep x:Lab}:za6 sep [x]=x:=by simp[za6]
theorem zdv(c:UInt8):∀(r:List Lab) (p:Lab),(∀x∈p::r,c∉x)→SplC c (za6 [c] (p::r)) (p::r)
 | [],p,h=>by
  have h0:c∉p:=h p (List.mem_cons_self ..)
  have hc:Lib.countB ⟨p.toArray⟩ ⟨#[c]⟩=0:=by
   show Lib.count p [c]=0
   rw[Lib.count_one]
   exact List.count_eq_zero.2 h0
  rw[zib]
  exact⟨by rw[hc];rfl,by rw[hc];rfl⟩
 |q::r,p,h=>by
  have ih:=zdv c r q fun x hx=>h x (List.mem_cons_of_mem _ hx)
  have h0:c∉p:=h p (List.mem_cons_self ..)
  rw[zfJ]
  obtain⟨u,hu⟩:∃u,za6 [c] (q::r)=u:=⟨_,rfl⟩
  rw[hu]at ih ⊢
  have hc:Lib.countB ⟨(p++c::u).toArray⟩ ⟨#[c]⟩=Lib.countB ⟨u.toArray⟩ ⟨#[c]⟩+1:=by
   show Lib.count (p++c::u) [c]=Lib.count u [c]+1
   rw[Lib.count_one,Lib.count_one,List.count_append,List.count_eq_zero.2 h0,List.count_cons_self,Nat.zero_add]
  have hi:Lib.indexB ⟨(p++c::u).toArray⟩ ⟨#[c]⟩=(p.length:Int):=ix_at c u p h0
  show SplC c (p++c::u) _
  refine⟨?_,by rw[hc,ih.ct];rfl⟩
  rw[hc,Lib.splitB_hit _ _ _ _ _ hi,ex_back,ih.sp,ex_front]
  rfl
def manyD(t:Int)(n:Nat):Bool:=if (zaZ t).2.2.1<0 then decide (1≤(n:Int)) && decide ((n:Int)≤32) else if 0<(zaZ t).2.2.2 then decide ((n:Int)=1) else if (zaZ t).2.2.2<0 then false else decide ((n:Int)=(zaZ t).1+(zaZ t).2.1)
theorem shape_lt(t:Int):0≤(zaZ t).1∧(zaZ t).1≤5∧0≤(zaZ t).2.1∧(zaZ t).2.1≤5:=by
 unfold zaZ
 (repeat' split)<;>decide
theorem many_ok{W0 w:World}{b:Nat}{ws:List (Lab×Bool)}{ov:Value}{e:Int}(h:Rdr W0 w b ws ov e)(t:Int):Fn Tryz.prog 166 #[.pointer (some ⟨b,0,Option.none⟩),vi t] w (fun v w'=>v= .bool (manyD t ws.length)∧Ext w w'):=by
  obtain⟨wv,hb,hr⟩:=h.at'
  obtain⟨wa,wc,rfl,_,_⟩:=hr.open
  obtain⟨n,hn⟩:∃n,ws.length=n:=⟨_,rfl⟩
  rw[hn]at hb ⊢
  have hsl:=shape_lt t
  obtain⟨⟨a,c,x,r⟩,hsh⟩:∃x,zaZ t=x:=⟨_,rfl⟩
  unfold manyD
  rw[hsh]at hsl ⊢
  simp only at hsl ⊢
  refine enter Tryz.func166 Tryz.ntmps166 rfl rfl ?_
  refine go trivial ?_
  refine rq ?_;intro gd K hgd hK
  try simp only[go_sem]
  refine Fn.mono (of_ok w t) ?_
  rintro _ w2 ⟨rfl,hE2⟩
  rw[hsh]
  unfold shapeV
  simp only
  try simp only[go_sem]
  refine zbg (P:=Tryz.prog) (l:=[vi a,vi c,vi x,vi r]) rfl (zdC _ _ _ _) rfl rfl ?_
  intro w3 hE3 hs3 hB3
  try simp only[go_sem]
  refine hK _ _ ?_;clear hK hgd;clear K;try clear gd
  have hE:=hE2.trans hE3
  have c0:zag w3 (some ⟨b,0,Option.none⟩)=some (.slice wa n wc):=zad (Ext.at hE hb) rfl
  have k0:zag w3 (some ⟨w2.heap.size,0,Option.none⟩)=some (vi a):=zaK (j:=0) hB3 rfl
  have k1:zag w3 (some ⟨w2.heap.size,1,Option.none⟩)=some (vi c):=zaK (j:=1) hB3 rfl
  have k2:zag w3 (some ⟨w2.heap.size,2,Option.none⟩)=some (vi x):=zaK (j:=2) hB3 rfl
  have k3:zag w3 (some ⟨w2.heap.size,3,Option.none⟩)=some (vi r):=zaK (j:=3) hB3 rfl
  by_cases hx:x<0
  · rw[if_pos hx]
    refine go (an3 k2 (decide_eq_true hx) (Nat.zero_add 2)) ?_
    obtain⟨b1,hb1⟩:∃t,decide (1≤(n:Int))=t:=⟨_,rfl⟩
    obtain⟨b2,hb2⟩:∃t,decide ((n:Int)≤32)=t:=⟨_,rfl⟩
    rw[hb1,hb2]
    cases b1<;>cases b2<;>
      (refine rgg [(6,18)] (an4 c0 hb1 hb2 (Nat.add_zero 0)) ?_
       refine go trivial ?_
       refine zaf (.inr rfl) Tryz.ntmps166 rfl (zac (vr0) zae) ?_
       exact⟨rfl,hE⟩)
  rw[if_neg hx]
  by_cases hr1:0<r
  · rw[if_pos hr1]
    refine go (an9 k2 (decide_eq_false hx) (Nat.zero_add 2) k3 (decide_eq_true hr1) (Nat.zero_add 3) c0 (Nat.add_zero 0) trivial) ?_
    refine zaf (.inr rfl) Tryz.ntmps166 rfl (zac (vr0) zae) ?_
    exact⟨rfl,hE⟩
  rw[if_neg hr1]
  by_cases hr2:r<0
  · rw[if_pos hr2]
    refine go (an8 k2 (decide_eq_false hx) (Nat.zero_add 2) k3 (decide_eq_false hr1) (Nat.zero_add 3) (decide_eq_true hr2) trivial) ?_
    refine zaf (.inr rfl) Tryz.ntmps166 rfl (zac (vr0) zae) ?_
    exact⟨rfl,hE⟩
  rw[if_neg hr2]
  refine go (an8 k2 (decide_eq_false hx) (Nat.zero_add 2) k3 (decide_eq_false hr1) (Nat.zero_add 3) (decide_eq_false hr2) trivial) ?_
  refine zaU (fun _=>false) [(0,true),(1,true),(2,true),(3,true),(4,true),(5,true),(6,true),(7,true),(8,true),(9,true),(10,true),(11,true)] NoS mixed (by kernel_rfl) ?_;intro gd K x hgd hx hxe hK;have hx0:=za0 hxe;clear hxe
  have c0x:=zaa hx0 c0
  have k0x:=zaa hx0 k0
  have k1x:=zaa hx0 k1
  simp (disch:=first|omega|assumption|rfl) only[go_sem,c0x,k0x,k1x,Nat.add_zero,Nat.zero_add]
  refine hK _ _ ?_;clear hK hgd;clear K;try clear gd
  refine go trivial ?_
  refine zaf (.inr rfl) Tryz.ntmps166 rfl (zac (vr0) zae) ?_
  exact⟨rfl,hE.trans hx0⟩
theorem zhV(t:Int)(a b c d:Value)(ha:one a=true)(hb:one b=true)(hc:one c=true)(hd:one d=true):∀v∈ [vi t,a,b,c,d],one v=true:=fun v h=>by
 simp at h
 rcases h with rfl|rfl|rfl|rfl|rfl<;>first|rfl|assumption
theorem own1_ok{W0 w:World}{b:Nat}{t:Lab}{q:Bool}{ov:Value}{e:Int}{ps:List Lab}(hW:WX W0)(h:Rdr W0 w b [(t,q)] ov e)(ht:t.length≤1000000)(hsp:SplP t ps)(hpl:ps.length≤1000000)(hpx:∀p∈ps,p.length≤1000000):
  Fn Tryz.prog 106 #[.pointer (some ⟨b,0,Option.none⟩),vi 1] w (fun v w'=>(∃rv,v= .agg #[vi 1,.slice Option.none 0 0,.slice Option.none 0 0,.slice Option.none 0 0,rv]∧Own w.heap.size w' 5 rv (ps.map octP))∧Rdr W0 w' b [] ov (zg3 (if ps.length=4 then(if q=true then zc4 e 2 else e) else zc4 (if q=true then zc4 e 2 else e) 2) ps)∧Keep (fun i=>i=b) w w'):=by
 have hbl:=h.lt
 have hlow:=h.low
 refine enter Tryz.func106 Tryz.ntmps106 rfl rfl ?_
 refine go trivial ?_
 refine zap ?_
 intro w1 hE1 hs1 hA
 refine rq ?_;intro gd K hgd hK
 try simp only[go_sem]
 refine⟨by kernel_rfl,?_⟩
 rw[show bdV Tryz.prog 33 [(0,vi 1)]=some (.agg #[vi 1,.slice Option.none 0 0,.slice Option.none 0 0,.slice Option.none 0 0,.slice Option.none 0 0]) from by kernel_rfl]
 try simp only[go_sem]
 refine zbg (P:=Tryz.prog) (l:=[vi 1,.slice Option.none 0 0,.slice Option.none 0 0,.slice Option.none 0 0,.slice Option.none 0 0]) rfl (zhV _ _ _ _ _ rfl rfl rfl rfl) rfl rfl ?_
 intro w2 hE2 hs2 hB2
 try simp only[go_sem]
 refine hK _ _ ?_;clear hK hgd;clear K;try clear gd
 rw[hs1]at hB2
 simp only[hs1]
 have hR2:=(h.extx hE1).extx hE2
 refine go trivial ?_
 refine rc trivial (many_ok hR2 1) ?_
 rintro _ w3 ⟨rfl,hE3⟩
 rw[show manyD 1 ([(t,q)]:List (Lab×Bool)).length=true from rfl]
 have d1:decide ((1:Int)=1)=true:=rfl
 refine rgo d1 ?_
 have hR3:=hR2.extx hE3
 have hs3:=hE3.size
 refine rq ?_;intro gd K hgd hK
 try simp only[go_sem]
 refine Fn.mono (zhe hW hR3 (by simp) ht hsp hpl hpx) ?_
 rintro rv w4 ⟨hown,hR4,hk4⟩
 obtain⟨ra,rc',hrv⟩:=hown.slice
 have hs4:=hk4.size
 have hB4:=(hk4.block (w.heap.size+1) (by omega) (by omega)).trans (Ext.at hE3 hB2)
 try simp (disch:=first|omega|assumption|rfl) only[go_sem,Nat.zero_add]
 refine zdq (P:=Tryz.prog) (t:=31) (j:=4) (u:=rv) hB4 (by simp) (by rw[hrv];rfl) rfl rfl ?_
 intro w5 hs5 hB5 hk5
 try simp only[go_sem]
 refine hK _ _ ?_;clear hK hgd;clear K;try clear gd
 simp only[List.set_cons_zero,List.set_cons_succ]at hB5
 have q5:=zam (n:=5) hB5 rfl
 refine go trivial ?_
 refine rq ?_;intro gd K hgd hK
 try simp (disch:=first|omega|assumption|rfl) only[go_sem,q5]
 have hA5:w5.heap[w.heap.size]? =_:=(hk5.block _ (by omega) (by omega)).trans ((hk4.block _ (by omega) (by omega)).trans (Ext.at (hE2.trans hE3) hA))
 refine za1 (P:=Tryz.prog) (t:=33) (l:=[vi 1,.slice Option.none 0 0,.slice Option.none 0 0,.slice Option.none 0 0,rv]) hA5 rfl (zhV _ _ _ _ _ rfl rfl rfl (by rw[hrv];rfl)) rfl rfl ?_
 intro w6 hs6 hB6 hk6
 try simp only[go_sem]
 refine hK _ _ ?_;clear hK hgd;clear K;try clear gd
 refine go trivial ?_
 refine zaf (.inr rfl) Tryz.ntmps106 rfl (zaS (x:=⟨w.heap.size,0,Option.none⟩) (k:=5) (vr0) rfl rfl (zam hB6 rfl) zae) ?_
 have hE13:=(hE1.trans hE2).trans hE3
 refine⟨⟨rv,rfl,((hown.keep hk5 fun i hi hs=>by have:=(hown.ge hi).1;omega).keep hk6 fun i hi hs=>by have:=(hown.ge hi).1;omega).mono (by omega)⟩,(hR4.keep hk5 fun i hi=>by omega).keep hk6 fun i hi=>by omega,?_⟩
 exact((((hE13.mono fun _ _ h=>h.elim):Keep (fun i=>i=b) w w3).trans hk4).own hk5 fun i hi h=>by omega).own hk6 fun i hi h=>by omega
end Go.Proofs.YtanmnkbccfcagaaGreatDoor
