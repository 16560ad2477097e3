/-
  Texts of a proof, joined: JB, JC, JD, B5, B6, HP, JE, JG, JH, JI, JJ, JK, JL.
  Conditions: none.
-/
import Derived.Test.YtanmnkbccfcagaaGreatDoorQDA04
import Derived.Test.YtanmnkbccfcagaaGreatDoorQDA03
import Derived.Test.YtanmnkbccfcagaaGreatDoorQDA02
set_option linter.unusedVariables false
set_option linter.unusedSimpArgs false
set_option linter.defProp false
set_option linter.unnecessarySimpa false
set_option maxHeartbeats 8000000
namespace Go.Proofs.YtanmnkbccfcagaaGreatDoor
open Go
set_option maxRecDepth 10000
theorem dig_stop{s:Lab}{n:Nat}(h:∀j (hj:j<s.length),j<n→digB s[j]=true)(hn:n≤s.length)(h3:n≤3)(he:n<3→∀hj:n<s.length,digB s[n]=false):digN s=n:=by
 have e:s.take 3=s.take n++(s.drop n).take (3 - n):=by
  rw[←List.take_add];congr 1;omega
 unfold digN
 rw[e,List.takeWhile_append_of_pos (fun c hc=>?_),List.length_append,List.length_take]
 ·have:((s.drop n).take (3 - n)).takeWhile digB=[]:=by
   by_cases h4:n<3
   ·by_cases h5:n<s.length
    ·rw[List.drop_eq_getElem_cons h5,show 3 - n=(3 - n - 1)+1 by omega,List.take_succ_cons,List.takeWhile_cons_of_neg (by rw[he h4 h5];decide)]
    ·rw[List.drop_of_length_le (by omega)];simp
   ·rw[show 3 - n=0 by omega];rfl
  rw[this];simp;omega
 ·obtain⟨j,hj,rfl⟩:=List.mem_iff_getElem.1 hc
  rw[List.length_take]at hj
  rw[List.getElem_take]
  exact h j (by omega) (by omega)
def zeq(s:Lab)(n:Nat):Bool:=match s[n]? with
 |some c=>decide (n<3) && digB c
 |Option.none=>false
theorem zgX(w:World)(s:Lab)(hl:s.length≤1000000000):Fn Tryz.prog 273 #[vs s] w (fun v w'=>v=vi (digN s)∧w=w'):=by
 refine enter Tryz.func273 Tryz.ntmps273 rfl rfl ?_
 refine go trivial ?_
 refine zaF (fun m σ ds v=>ds=[]∧∃n,n+m=3∧n≤s.length∧σ 0=vs s∧σ 3=vi n∧w=v∧∀j (hj:j<s.length),j<n→digB s[j]=true) 3 ?_ ?_
 ·exact⟨rfl,0,by omega,Nat.zero_le _,vr0,vr0,rfl,fun j _ h=>by omega⟩
 rintro m σ ds v ⟨rfl,n,hnm,hnl,s0,s3,rfl,hall⟩
 have hmin:min (s.length:Int) 3=((min s.length 3:Nat):Int):=by omega
 refine go (an2 s0 s3) ?_
 refine zav (Q:=fun e σ' ds' v'=>e= .normal∧ds'=[]∧w=v'∧σ' 0=vs s∧σ' 3=vi n∧σ' 20= .bool (zeq s n)) ?_ ?_
 ·by_cases c1:n<min s.length 3
  ·have hi:n<s.length:=by omega
   have d1:decide ((n:Int)<((min s.length 3:Nat):Int))=true:=decide_eq_true (by omega)
   have z0:(0:Int)≤(n:Int):=by omega
   have zi:((n:Int)).toNat<s.length:=by omega
   have hct:zeq s n=digB s[n]:=by unfold zeq;rw[List.getElem?_eq_getElem hi];simp only;rw[decide_eq_true (by omega),Bool.true_and]
   obtain⟨c,hc⟩:∃c,s[n]=c:=⟨_,rfl⟩
   have hcx:s[((n:Int)).toNat]'zi=c:=hc
   rw[hct,hc]
   unfold digB
   by_cases c2:48≤c.toNat
   ·have d2:decide ((48:Int)≤(c.toNat:Int))=true:=decide_eq_true (by omega)
    obtain⟨t,ht⟩:∃t,decide ((c.toNat:Int)≤57)=t:=⟨_,rfl⟩
    rw[show (decide (48≤c.toNat) && decide (c.toNat≤57))=t by rw[decide_eq_true c2,Bool.true_and,←ht];exact decide_eq_decide.2 (by omega)]
    refine rq ?_;intro gd K hgd hK
    have hg5:∀n σ b,zaw gd n σ (some (5,b))=zao (ev n σ (.tmp 9)) b:=(fun n σ b=>by rw[zai,show gd 5=some 9 from(by rw[hgd];rfl)];rfl);have hg11:∀n σ b,zaw gd n σ (some (11,b))=zao (ev n σ (.tmp 15)) b:=(fun n σ b=>by rw[zai,show gd 11=some 15 from(by rw[hgd];rfl)];rfl)
    try simp (disch:=first|omega|assumption|rfl) only[go_sem,s0,s3,↓hg5,↓hg11]
    refine zdB (vr0) (vr0) ?_
    rw[hmin]
    try simp (disch:=first|omega|assumption|rfl) only[go_sem,s0,s3,d1,z0,zi,hc,d2,ht,↓hg5,↓hg11]
    refine hK _ _ ?_;clear hK hgd;clear K;try clear gd
    exact⟨rfl,rfl,rfl,(vq1 s0),(vq1 s3),vr0⟩
   ·have d2:decide ((48:Int)≤(c.toNat:Int))=false:=decide_eq_false (by omega)
    rw[decide_eq_false c2,Bool.false_and]
    refine rq ?_;intro gd K hgd hK
    have hg5:∀n σ b,zaw gd n σ (some (5,b))=zao (ev n σ (.tmp 9)) b:=(fun n σ b=>by rw[zai,show gd 5=some 9 from(by rw[hgd];rfl)];rfl);have hg11:∀n σ b,zaw gd n σ (some (11,b))=zao (ev n σ (.tmp 15)) b:=(fun n σ b=>by rw[zai,show gd 11=some 15 from(by rw[hgd];rfl)];rfl)
    try simp (disch:=first|omega|assumption|rfl) only[go_sem,s0,s3,↓hg5,↓hg11]
    refine zdB (vr0) (vr0) ?_
    rw[hmin]
    try simp (disch:=first|omega|assumption|rfl) only[go_sem,s0,s3,d1,z0,zi,hc,d2,↓hg5,↓hg11]
    refine hK _ _ ?_;clear hK hgd;clear K;try clear gd
    exact⟨rfl,rfl,rfl,(vq1 s0),(vq1 s3),vr0⟩
  ·have d1:decide ((n:Int)<((min s.length 3:Nat):Int))=false:=decide_eq_false (by omega)
   have hct:zeq s n=false:=by
    unfold zeq
    split
    ·rename_i c hc
     have:=(List.getElem?_eq_some_iff.1 hc).1
     rw[decide_eq_false (by omega),Bool.false_and]
    ·rfl
   rw[hct]
   refine rq ?_;intro gd K hgd hK
   have hg5:∀n σ b,zaw gd n σ (some (5,b))=zao (ev n σ (.tmp 9)) b:=(fun n σ b=>by rw[zai,show gd 5=some 9 from(by rw[hgd];rfl)];rfl);have hg11:∀n σ b,zaw gd n σ (some (11,b))=zao (ev n σ (.tmp 15)) b:=(fun n σ b=>by rw[zai,show gd 11=some 15 from(by rw[hgd];rfl)];rfl)
   try simp (disch:=first|omega|assumption|rfl) only[go_sem,s0,s3,↓hg5,↓hg11]
   refine zdB (vr0) (vr0) ?_
   rw[hmin]
   try simp (disch:=first|omega|assumption|rfl) only[go_sem,s0,s3,d1,↓hg5,↓hg11]
   refine hK _ _ ?_;clear hK hgd;clear K;try clear gd
   exact⟨rfl,rfl,rfl,(vq1 s0),(vq1 s3),vr0⟩
 rintro _ σ1 _ v1 ⟨rfl,rfl,hv1,g0,g3,g20⟩
 subst hv1
 have hi2:(n:Int)+1=((n+1:Nat):Int):=by push_cast;rfl
 cases hc:zeq s n with
 |true=>
  rw[hc]at g20
  unfold zeq at hc
  split at hc
  ·rename_i c hcc
   simp only[Bool.and_eq_true,decide_eq_true_eq]at hc
   obtain⟨hi,hce⟩:=List.getElem?_eq_some_iff.1 hcc
   refine go (an4 g0 g3 g20 hi2) ?_
   refine⟨m - 1,by omega,rfl,n+1,by omega,by omega,(vq1 g0),(vq1 hi2),rfl,fun j hj hjn=>?_⟩
   by_cases e:j=n
   ·subst e;rw[hce];exact hc.2
   ·exact hall j hj (by omega)
  ·cases hc
 |false=>
  rw[hc]at g20
  refine go (an3 g0 g3 g20) ?_
  refine rt0 Tryz.ntmps273 ?_
  refine⟨?_,rfl⟩
  rw[dig_stop hall hnl (by omega) (fun h3 hj=>by
   unfold zeq at hc
   rw[List.getElem?_eq_getElem hj]at hc
   simp only at hc
   rwa [decide_eq_true h3,Bool.true_and]at hc)]
theorem i_str1(k:IntKind)(a c:UInt8)(r:Lab):ixSD (some .string) (vs (a::c::r)) (.int k 1)=some (.int .u8 c.toNat):=(zfE (by decide) (by simp)).trans rfl
theorem i_str2(k:IntKind)(a b c:UInt8)(r:Lab):ixSD (some .string) (vs (a::b::c::r)) (.int k 2)=some (.int .u8 c.toNat):=(zfE (by decide) (by simp)).trans rfl
attribute [go_sem] i_str1 i_str2
theorem zfM(w:World)(s:Lab)(hl:s.length≤1000000000):Fn Tryz.prog 237 #[vs s] w (fun v w'=>v= .tuple #[zal (escD s).1,vi (escD s).2.1,vi (escD s).2.2]∧Ext w w'):=by
 refine enter Tryz.func237 Tryz.ntmps237 rfl rfl ?_
 refine go trivial ?_
 refine rc trivial (zgX w s hl) ?_
 rintro _ w1 ⟨rfl,hw1⟩
 subst hw1
 unfold escD
 by_cases h0:digN s=0
 ·rw[if_pos h0]
  have d0:decide ((digN s:Int)=0)=true:=decide_eq_true (by omega)
  cases s with
  |nil=>
   refine rgo d0 ?_
   refine zag (.inr rfl) Tryz.ntmps237 rfl (zac (vr0) (zac (vr0) (zac (vr0) zae))) ?_
   exact⟨rfl,Keep.refl _ _⟩
  |cons c r=>
   have d1:decide (c::r=[])=false:=rfl
   refine rgo (an2 d0 d1) ?_
   refine zag (.inr rfl) Tryz.ntmps237 rfl (zac (vr0) (zac (vr0) (zac (vr0) zae))) ?_
   exact⟨rfl,Keep.refl _ _⟩
 rw[if_neg h0]
 have d0:decide ((digN s:Int)=0)=false:=decide_eq_false (by omega)
 by_cases h3:digN s=3
 ·rw[if_pos h3]
  have d3:decide ((digN s:Int)=3)=true:=decide_eq_true (by omega)
  have hlen:3≤s.length∧∀j (hj:j<s.length),j<3→digB s[j]=true:=by
   have h4:((s.take 3).takeWhile digB).length=3:=h3
   have h5:((s.take 3).takeWhile digB).length≤(s.take 3).length:=(List.takeWhile_sublist _).length_le
   rw[h4,List.length_take]at h5
   have h6:(s.take 3).takeWhile digB=s.take 3:=(List.takeWhile_prefix digB).eq_of_length (by rw[h4,List.length_take];omega)
   refine⟨by omega,fun j hj h=>?_⟩
   have h7:s[j]∈(s.take 3).takeWhile digB:=by
    rw[h6]
    exact List.mem_iff_getElem.2 ⟨j,by rw[List.length_take];omega,by rw[List.getElem_take]⟩
   exact List.all_eq_true.1 List.all_takeWhile _ h7
  obtain⟨hl3,hdg⟩:=hlen
  obtain⟨a,b,c,r,rfl⟩:∃a b c r,s=a::b::c::r:=by
   match s,hl3 with
   |a::b::c::r,_=>exact⟨a,b,c,r,rfl⟩
  have ka:=hdg 0 (by simp) (by omega)
  have kb:=hdg 1 (by simp) (by omega)
  have kc:=hdg 2 (by simp) (by omega)
  simp only[List.getElem_cons_zero,List.getElem_cons_succ]at ka kb kc
  unfold digB at ka kb kc
  simp only[Bool.and_eq_true,decide_eq_true_eq]at ka kb kc
  obtain⟨x,hx⟩:∃x,a.toNat=48+x:=⟨a.toNat - 48,by omega⟩
  obtain⟨y,hy⟩:∃y,b.toNat=48+y:=⟨b.toNat - 48,by omega⟩
  obtain⟨z,hz⟩:∃z,c.toNat=48+z:=⟨c.toNat - 48,by omega⟩
  have hv:escV (a::b::c::r)=100*x+10*y+z:=by unfold escV;simp only;omega
  obtain⟨V,hV⟩:∃V,100*x+10*y+z=V:=⟨_,rfl⟩
  have ea:(a.toNat:Int) - 48=(x:Int):=by omega
  have eb:(b.toNat:Int) - 48=(y:Int):=by omega
  have ec:(c.toNat:Int) - 48=(z:Int):=by omega
  have eV:100*(x:Int)+10*(y:Int)+(z:Int)=(V:Int):=by omega
  have e0:(a::b::c::r)[Int.toNat 0]'(by simp)=a:=rfl
  have e1:(a::b::c::r)[Int.toNat 1]'(by simp)=b:=rfl
  have e2:(a::b::c::r)[Int.toNat 2]'(by simp)=c:=rfl
  rw[hv,hV]
  refine rgo (an2 d0 d3) ?_
  refine zav (Q:=fun e σ' ds' v'=>e= .normal∧ds'=[]∧Ext w v'∧σ' 5=vi V) ?_ ?_
  ·refine za4 (fun _=>false) [(0,true),(1,true),(2,true),(3,true),(4,true),(5,true),(6,true),(7,true),(8,true),(9,true),(10,true),(11,true),(12,true),(13,true),(14,true),(15,true),(16,true)] NoS mixed (by kernel_rfl) ?_;intro gd K x hgd hx hxe hK;have hx0:=za5 hxe;clear hxe
   simp (disch:=first|omega|assumption|rfl) only[go_sem,e0,e1,e2,ea,eb,ec,eV]
   refine hK _ _ ?_;clear hK hgd;clear K;try clear gd
   exact⟨rfl,rfl,hx0,vr0⟩
  rintro _ σ1 _ v1 ⟨rfl,rfl,hE1,g5⟩
  by_cases hb:255<V
  ·have d5:decide ((255:Int)<(V:Int))=true:=decide_eq_true (by omega)
   rw[if_pos hb]
   refine go (an2 g5 d5) ?_
   refine zag (.inr rfl) Tryz.ntmps237 rfl (zac (vr0) (zac (vr0) (zac (vr0) zae))) ?_
   exact⟨rfl,hE1⟩
  ·have d5:decide ((255:Int)<(V:Int))=false:=decide_eq_false (by omega)
   rw[if_neg hb]
   refine go (an2 g5 d5) ?_
   refine zag (.inr rfl) Tryz.ntmps237 rfl (zac (vr0) (zac (vr0) (zac (vr0) zae))) ?_
   exact⟨by rw[zbg (by omega)];rfl,hE1⟩
 rw[if_neg h3]
 have d3:decide ((digN s:Int)=3)=false:=decide_eq_false (by omega)
 refine rgo (an2 d0 d3) ?_
 refine zag (.inr rfl) Tryz.ntmps237 rfl (zac (vr0) (zac (vr0) (zac (vr0) zae))) ?_
 exact⟨rfl,Keep.refl _ _⟩
theorem zez(w:World)(l:Lab)(c:UInt8):Fn Tryz.prog 132 #[vs l,zal c] w (fun v w'=>v=vi (Lib.indexByte l c)∧w'=w):=
 Fn.of_calls (Calls.mono (Any.strings_IndexByte Tryz.lays137 ⟨l.toArray⟩ (c.toNat:Int) w) fun _ _ ⟨he,hw⟩=>⟨_,he,by simp,hw⟩)
theorem escD_le(s:Lab):(escD s).2.1≤3∧0≤(escD s).2.2∧(escD s).2.2≤7:=by
 unfold escD
 split
 ·cases s<;>simp
 ·split
  ·split<;>simp
  ·simp
theorem unD_skip(bare:Lab)(k:Nat)(c:UInt8)(s acc:Lab):unD bare (k+1) (c::s) acc=unD bare k s acc:=by rw[unD]
structure UnI(w:World)(s bare:Lab)(B:Nat)(A:World)(bh:Nat)(acc:Lab):Prop where
 e:Ext w A
 hB:w.heap.size+6≤B
 c0:A.heap[w.heap.size]? =some (.cells #[vs s] 9 (0,0))
 c1:A.heap[w.heap.size+1]? =some (.cells #[vs bare] 9 (0,0))
 c2:A.heap[w.heap.size+2]? =some (.cells #[vs []] 9 (0,0))
 c3:A.heap[w.heap.size+3]? =some (.cells #[vi 0] 39 (0,0))
 c5:A.heap[w.heap.size+5]? =some (.cells #[vi bh] 3 (0,0))
 b:Bld B A (w.heap.size+4) acc
theorem UnI.lt{w:World}{s bare:Lab}{B:Nat}{A:World}{bh:Nat}{acc:Lab}(h:UnI w s bare B A bh acc):w.heap.size+5<A.heap.size:=(Array.getElem?_eq_some_iff.1 h.c5).1
theorem UnI.keep{w:World}{s bare:Lab}{B:Nat}{A X:World}{bh:Nat}{acc:Lab}{S:Nat→Prop}(h:UnI w s bare B A bh acc)(hk:Keep S A X)(hS:∀i,S i→w.heap.size+6≤i∧i<B):UnI w s bare B X bh acc:=by
 have hlt:=h.lt
 have hb:∀j,j<w.heap.size+6→X.heap[j]? =A.heap[j]?:=fun j hj=>hk.block _ (by omega) fun hs=>by have:=(hS _ hs).1;omega
 obtain⟨p,v,h1,h2,h3⟩:=h.b.ex
 exact⟨Keep.to_ext h.e rfl (fun i hi=>by have:=(hS i hi).1;omega) hk,h.hB,(hb _ (by omega)).trans h.c0,(hb _ (by omega)).trans h.c1,(hb _ (by omega)).trans h.c2,(hb _ (by omega)).trans h.c3,(hb _ (by omega)).trans h.c5,
  ⟨⟨p,v,h1,(hb _ (by omega)).trans h2,h3.keep hk fun i hi hs=>by have:=(hS i hs).2;have:=(h3.ge hi).1;omega⟩⟩⟩
theorem UnI.ext{w:World}{s bare:Lab}{B:Nat}{A X:World}{bh:Nat}{acc:Lab}(h:UnI w s bare B A bh acc)(hk:Ext A X):UnI w s bare B X bh acc:=h.keep hk fun _ h=>h.elim
theorem UnI.turn{w:World}{s bare:Lab}{B:Nat}{A X:World}{bh bh':Nat}{acc:Lab}(h:UnI w s bare B A bh acc)(hk:Keep (fun i=>i=w.heap.size+5) A X)(h5:X.heap[w.heap.size+5]? =some (.cells #[vi bh'] 3 (0,0))):UnI w s bare B X bh' acc:=by
 have hlt:=h.lt
 have hb:∀j,j<w.heap.size+5→X.heap[j]? =A.heap[j]?:=fun j hj=>hk.block _ (by omega) (by omega)
 obtain⟨p,v,h1,h2,h3⟩:=h.b.ex
 have hB:=h.hB
 exact⟨Keep.to_ext h.e rfl (fun i hi=>by omega) hk,h.hB,(hb _ (by omega)).trans h.c0,(hb _ (by omega)).trans h.c1,(hb _ (by omega)).trans h.c2,(hb _ (by omega)).trans h.c3,h5,
  ⟨⟨p,v,h1,(hb _ (by omega)).trans h2,h3.keep hk fun i hi hs=>by have:=(h3.ge hi).1;omega⟩⟩⟩
theorem UnI.wrote{w:World}{s bare:Lab}{B:Nat}{A X:World}{bh:Nat}{acc acc':Lab}(h:UnI w s bare B A bh acc)(hk:Keep (fun i=>i=w.heap.size+4∨B≤i) A X)(hb:Bld B X (w.heap.size+4) acc'):UnI w s bare B X bh acc':=by
 have hlt:=h.lt
 have hB:=h.hB
 have hb':∀j,j<w.heap.size+6→¬j=w.heap.size+4→X.heap[j]? =A.heap[j]?:=fun j hj hn=>hk.block _ (by omega) (by omega)
 exact⟨Keep.to_ext h.e rfl (fun i hi=>by omega) hk,h.hB,(hb' _ (by omega) (by omega)).trans h.c0,(hb' _ (by omega) (by omega)).trans h.c1,(hb' _ (by omega) (by omega)).trans h.c2,(hb' _ (by omega) (by omega)).trans h.c3,(hb' _ (by omega) (by omega)).trans h.c5,hb⟩
def UnE(w A:World)(e:Int):Prop:=Ext w A∧A.heap[w.heap.size+2]? =some (.cells #[vs []] 9 (0,0))∧A.heap[w.heap.size+3]? =some (.cells #[vi e] 39 (0,0))
theorem UnE.keep{w A X:World}{e:Int}{S:Nat→Prop}(h:UnE w A e)(hk:Keep S A X)(hS:∀i,S i→w.heap.size+4≤i):UnE w X e:=by
 obtain⟨h1,h2,h3⟩:=h
 have l1:=(Array.getElem?_eq_some_iff.1 h3).1
 exact⟨Keep.to_ext h1 rfl (fun i hi=>by have:=hS i hi;omega) hk,(hk.block _ (by omega) fun hs=>by have:=hS _ hs;omega).trans h2,(hk.block _ (by omega) fun hs=>by have:=hS _ hs;omega).trans h3⟩
theorem zds(w:World)(s bare:Lab)(hl:s.length≤1000000000):Fn Tryz.prog 195 #[vs s,vs bare] w (fun v w'=>v= .tuple #[vs (unD bare 0 s []).1,vi (unD bare 0 s []).2]∧Ext w w'):=by
 refine enter Tryz.func195 Tryz.ntmps195 rfl rfl ?_
 refine go trivial ?_
 simp only[zau]
 refine W_alloc3 ?_
 intro w0 hE0 hs0 hA2 hA3 hA4
 obtain⟨hEX,hsX,hA0,hA1⟩:=zct w (.cells #[vs s] 9 (0,0)) (.cells #[vs bare] 9 (0,0))
 rw[hsX]at hs0 hA2 hA3 hA4
 refine rq ?_;intro gd K hgd hK
 try simp only[go_sem]
 refine zaz (P:=Tryz.prog) rfl rfl rfl (zat w0 _) (by simp) (by simp) ?_
 intro w1 hs1 hA5 hk1
 rw[zau]at hs1
 try simp only[go_sem]
 refine hK _ _ ?_;clear hK hgd;clear K;try clear gd
 rw[hs0]at hA5 ⊢
 have hE1:Ext w0 w1:=Keep.to_ext (Ext.alloc w0 _) rfl (fun b hb=>by omega) hk1
 have b0:=Ext.at (hE0.trans hE1) hA0
 have b1:=Ext.at (hE0.trans hE1) hA1
 have b2:=Ext.at hE1 hA2
 have b3:=Ext.at hE1 hA3
 have b4:=Ext.at hE1 hA4
 have hEw1:=(hEX.trans hE0).trans hE1
 refine go trivial ?_
 have c0:zad w1 (some ⟨w.heap.size,0,Option.none⟩)=some (vs s):=zaa b0 rfl
 refine rc c0 (zcm w1 s (by omega)) ?_
 rintro _ w3 ⟨hE3,cap,rfl,hit⟩
 refine rgo trivial ?_
 have hs3:=hE3.size
 have hI3:UnI w s bare (w3.heap.size+2) w3 0 []:=⟨hEw1.trans hE3,by omega,hE3.at b0,hE3.at b1,hE3.at b2,hE3.at b3,hE3.at (by simpa using hA5),⟨⟨_,_,.inl rfl,hE3.at b4,Own.nil _ _ _⟩⟩⟩
 obtain⟨D,hD⟩:∃D,w3.heap.size=D:=⟨_,rfl⟩
 rw[hD]at hI3
 have hDw:w.heap.size+6≤D:=by omega
 refine zav (Q:=fun e σ' ds' v'=>(e= .normal∨e= .ret)∧ds'=[{target:= .collected D,args:=#[]}]∧v'.heap[D]? =some (.deferred (some []))∧(σ' 4= .pointer (some ⟨w.heap.size+2,0,Option.none⟩)∧σ' 5= .pointer (some ⟨w.heap.size+3,0,Option.none⟩)∧σ' 6= .pointer (some ⟨w.heap.size+4,0,Option.none⟩))∧
  ((e= .normal∧∃bh acc,UnI w s bare (D+2) v' bh acc∧acc.length≤s.length∧unD bare 0 s []=(acc,0))∨(e= .ret∧∃er,UnE w v' er∧unD bare 0 s []=([],er)))) ?_ ?_
 ·refine zcG (g:=185) (cap:=cap) (vq0) rfl (hit (fun b=>w.heap.size+2≤b∧b≤w.heap.size+5) (fun b hb=>by omega)) (Keep.refl _ _) (Nat.le_refl _) (fun b hb=>by omega)
   (fun x A args h=>by rw[h];rfl)
   (fun pre A=>∃bh acc,UnI w s bare (D+2) A bh acc∧acc.length≤pre.length∧bh≤pre.length+4∧unD bare (bh - pre.length) (s.drop pre.length) acc=unD bare 0 s [])
   (fun c pre A=>c= .ret∧∃er,UnE w A er∧unD bare 0 s []=([],er)) ?_ ?_ ?_ ?_ ?_ ?_
  ·rintro pre A X ⟨bh,acc,h1,h2⟩ hk
   exact⟨bh,acc,h1.keep hk (fun i hi=>by unfold two at hi;omega),h2⟩
  ·rintro c pre A X ⟨rfl,er,h1,h2⟩ hk
   exact⟨rfl,er,h1.keep hk (fun i hi=>by unfold two at hi;omega),h2⟩
  ·exact⟨0,[],hI3,by simp,by simp,by simp⟩
  ·rintro lp pre x suf A args hxs hszA ⟨bh,acc,hI,hal,hbl,hun⟩ rfl
   obtain⟨hk,rfl⟩:=zbp hxs
   dsimp only
   refine go trivial ?_
   refine⟨rfl,KeepB.refl _ _ _,fun A2 hA2=>?_⟩
   rw[hD]at hszA hA2 ⊢
   have hI2:=hI.keep hA2 (fun i hi=>by unfold two at hi;omega)
   have hs2:=hA2.size
   clear hI
   obtain⟨c,hc⟩:∃c,s[pre.length]=c:=⟨_,rfl⟩
   rw[hc]
   rw[List.drop_eq_getElem_cons hk,hc]at hun
   obtain⟨i,hi⟩:∃i,pre.length=i:=⟨_,rfl⟩
   rw[hi]at hk hun hal hbl ⊢
   have hpl:∀y:UInt8×Nat,(pre++ [y]).length=i+1:=fun y=>by simp[hi]
   have c5:zad A2 (some ⟨w.heap.size+5,0,Option.none⟩)=some (vi bh):=zaa hI2.c5 rfl
   have hi2:(i:Int)+1=((i+1:Nat):Int):=by push_cast;rfl
   by_cases hb:i<bh
   ·have d1:decide ((i:Int)<(bh:Int))=true:=decide_eq_true (by omega)
    refine go (an2 c5 d1) ?_
    refine⟨⟨bh,acc,hI2,by rw[hpl];omega,by rw[hpl];omega,?_⟩,KeepB.refl _ _ _⟩
    rw[hpl,←hun,show bh - i=(bh - (i+1))+1 by omega,unD_skip]
   have d1:decide ((i:Int)<(bh:Int))=false:=decide_eq_false (by omega)
   rw[show bh - i=0 by omega,unD]at hun
   refine go (an2 c5 d1) ?_
   refine rq ?_;intro gd K hgd hK
   try simp (disch:=first|omega|assumption|rfl) only[go_sem,hi2]
   refine zaz rfl rfl rfl hI2.c5 (by simp) (by simp) ?_
   intro z1 hzs1 hzb1 hzk1
   try simp only[go_sem]
   refine hK _ _ ?_;clear hK hgd;clear K;try clear gd
   have hJ1:=hI2.turn hzk1 hzb1
   have hKz1:KeepB (D+2) (fun b=>w.heap.size+2≤b∧b≤w.heap.size+5) A2 z1:=hzk1.toB (by omega) (fun j hj h=>by omega)
   have k0:zad z1 (some ⟨w.heap.size,0,Option.none⟩)=some (vs s):=zaa hJ1.c0 rfl
   have k1:zad z1 (some ⟨w.heap.size+1,0,Option.none⟩)=some (vs bare):=zaa hJ1.c1 rfl
   clear c5 hI2
   have hbv:zal c= .int .u8 (c.toNat:Int):=rfl
   by_cases h92:c=92
   ·have d2:decide ((c.toNat:Int)=92)=true:=by subst h92;rfl
    rw[if_pos h92]at hun
    have z0:(0:Int)≤((i+1:Nat):Int):=by omega
    have z2:((i+1:Nat):Int)≤(s.length:Int):=by omega
    obtain⟨q,hq⟩:∃q,escD (s.drop (i+1))=q:=⟨_,rfl⟩
    have hle:=escD_le (s.drop (i+1))
    obtain⟨x,n,er⟩:=q
    rw[hq]at hun hle
    simp only at hun hle
    refine go (an2 hbv d2) ?_
    refine rc (an4 k0 hi2 z0 z2) (zfM z1 (s.drop (i+1)) (by rw[List.length_drop];omega)) ?_
    rintro _ y1 ⟨rfl,hE2⟩
    rw[hq]
    simp only
    have hJ2:=hJ1.ext hE2
    have hsy1:=hE2.size
    have hKy1:=hKz1.trans (hE2.toB (by omega) (fun _ _ h=>h.elim))
    by_cases he:er=0
    ·have d3:decide (er=0)=true:=decide_eq_true he
     rw[if_pos he]at hun
     refine rgo d3 ?_
     refine rc trivial (zaD (c:=x) hJ2.b (by have:=hJ2.lt;omega) (by omega)) ?_
     rintro _ y2 ⟨hB2,hk2⟩
     have hJ3:=hJ2.wrote hk2 hB2
     have hsy2:=hk2.size
     have hKy2:=hKy1.trans (hk2.toB (by omega) (fun j hj h=>by omega))
     have c5:zad y2 (some ⟨w.heap.size+5,0,Option.none⟩)=some (vi ((i+1:Nat):Int)):=zaa hJ3.c5 rfl
     have hin:((i+1:Nat):Int)+(n:Int)=((i+1+n:Nat):Int):=by push_cast;rfl
     refine rgo trivial ?_
     refine rq ?_;intro gd K hgd hK
     try simp (disch:=first|omega|assumption|rfl) only[go_sem,c5,hin]
     refine zaz rfl rfl rfl hJ3.c5 (by simp) (by simp) ?_
     intro y3 hys3 hyb3 hyk3
     try simp only[go_sem]
     refine hK _ _ ?_;clear hK hgd;clear K;try clear gd
     refine go trivial ?_
     refine⟨⟨i+1+n,acc++ [x],hJ3.turn hyk3 hyb3,by rw[hpl];simp;omega,by rw[hpl];omega,?_⟩,hKy2.trans (hyk3.toB (by omega) (fun j hj h=>by omega))⟩
     rw[hpl,←hun,show i+1+n - (i+1)=n by omega]
    ·have d3:decide (er=0)=false:=decide_eq_false he
     rw[if_neg he]at hun
     refine rgo d3 ?_
     refine rq ?_;intro gd K hgd hK
     try simp only[go_sem]
     refine zaz rfl rfl rfl hJ2.c2 (by simp) (by simp) ?_
     intro y2 hys2 hyb2 hyk2
     try simp only[go_sem]
     refine zaz rfl rfl rfl ((hyk2.block _ (by have:=hJ2.lt;omega) (by omega)).trans hJ2.c3) (by simp) (by simp) ?_
     intro y3 hys3 hyb3 hyk3
     try simp only[go_sem]
     refine hK _ _ ?_;clear hK hgd;clear K;try clear gd
     refine go trivial ?_
     refine⟨⟨rfl,er,⟨Keep.to_ext (Keep.to_ext hJ2.e rfl (fun i hi=>by omega) hyk2) rfl (fun i hi=>by omega) hyk3,(hyk3.block _ (by have:=hJ2.lt;omega) (by omega)).trans hyb2,hyb3⟩,hun.symm⟩,(hKy1.trans (hyk2.toB (by omega) (fun j hj h=>by omega))).trans (hyk3.toB (by omega) (fun j hj h=>by omega))⟩
   ·have d2:decide ((c.toNat:Int)=92)=false:=decide_eq_false fun h=>h92 (UInt8.toNat_inj.1 (by have:(92:UInt8).toNat=92:=rfl;omega))
    rw[if_neg h92]at hun
    have hhas:=zcp bare c
    refine go (an2 hbv d2) ?_
    refine rc k1 (zez z1 bare c) ?_
    rintro _ y0 ⟨rfl,hy0⟩
    subst hy0
    cases ht:bare.contains c with
    |true=>
     rw[ht]at hhas hun
     rw[if_pos rfl]at hun
     refine rgo hhas ?_
     refine rq ?_;intro gd K hgd hK
     try simp only[go_sem]
     refine zaz rfl rfl rfl hJ1.c2 (by simp) (by simp) ?_
     intro y2 hys2 hyb2 hyk2
     try simp only[go_sem]
     refine zaz rfl rfl rfl ((hyk2.block _ (by have:=hJ1.lt;omega) (by omega)).trans hJ1.c3) (by simp) (by simp) ?_
     intro y3 hys3 hyb3 hyk3
     try simp only[go_sem]
     refine hK _ _ ?_;clear hK hgd;clear K;try clear gd
     refine go trivial ?_
     refine⟨⟨rfl,2,⟨Keep.to_ext (Keep.to_ext hJ1.e rfl (fun i hi=>by omega) hyk2) rfl (fun i hi=>by omega) hyk3,(hyk3.block _ (by have:=hJ1.lt;omega) (by omega)).trans hyb2,hyb3⟩,hun.symm⟩,(hKz1.trans (hyk2.toB (by omega) (fun j hj h=>by omega))).trans (hyk3.toB (by omega) (fun j hj h=>by omega))⟩
    |false=>
     rw[ht]at hhas hun
     rw[if_neg (by decide)]at hun
     refine rgo hhas ?_
     refine rc trivial (zaD (c:=c) hJ1.b (by have:=hJ1.lt;omega) (by omega)) ?_
     rintro _ y2 ⟨hB2,hk2⟩
     refine rgo trivial ?_
     refine⟨⟨i+1,acc++ [c],hJ1.wrote hk2 hB2,by rw[hpl];simp;omega,by rw[hpl];omega,?_⟩,hKz1.trans (hk2.toB (by omega) (fun j hj h=>by omega))⟩
     rw[hpl,←hun,Nat.sub_self]
  ·rintro v hsz ⟨bh,acc,h1,h2,_,h3⟩ hDv
   rw[hD]at hDv
   rw[List.drop_of_length_le (by simp),unD]at h3
   have hz:s.zipIdx.length=s.length:=by simp
   exact⟨.inl rfl,by rw[hD],hDv,⟨vr0,vr0,vr0⟩,.inl ⟨rfl,bh,acc,h1,by omega,h3.symm⟩⟩
  ·rintro c pre x suf v hsz hxs ⟨rfl,er,h1,h2⟩ hDv
   rw[hD]at hDv
   refine go trivial ?_
   exact⟨.inr rfl,by rw[hD],hDv,⟨vr0,vr0,vr0⟩,.inr ⟨rfl,er,h1,h2⟩⟩
 rintro e σ2 ds v ⟨_,rfl,hDv,⟨t4,t5,t6⟩,(⟨rfl,bh,acc,h1,h2,h3⟩| ⟨rfl,er,h1,h3⟩)⟩
 ·have hlv:=h1.lt
  refine go trivial ?_
  refine rq ?_;intro gd K hgd hK
  try simp (disch:=first|omega|assumption|rfl) only[go_sem,t6]
  refine Fn.mono (zbT h1.b (by omega)) ?_
  rintro _ y1 ⟨rfl,hy1⟩
  try simp (disch:=first|omega|assumption|rfl) only[go_sem,t4]
  refine zaz rfl rfl rfl ((hy1.block _ (by omega) (by omega)).trans h1.c2) (by simp) (by simp) ?_
  intro y2 hys2 hyb2 hyk2
  try simp (disch:=first|omega|assumption|rfl) only[go_sem,t5]
  refine zaz rfl rfl rfl ((hyk2.block _ (by have:=hy1.size;omega) (by omega)).trans ((hy1.block _ (by omega) (by omega)).trans h1.c3)) (by simp) (by simp) ?_
  intro y3 hys3 hyb3 hyk3
  try simp only[go_sem]
  refine hK _ _ ?_;clear hK hgd;clear K;try clear gd
  refine go trivial ?_
  have hsy:=hy1.size
  have e2:=(hyk3.block _ (by omega) (by omega)).trans (show y2.heap[w.heap.size+2]? =some (.cells #[vs acc] 9 (0,0)) by simpa using hyb2)
  have e3:y3.heap[w.heap.size+3]? =some (.cells #[vi 0] 39 (0,0)):=by simpa using hyb3
  have hlD:=(Array.getElem?_eq_some_iff.1 hDv).1
  have hBD:=h1.hB
  refine zdL (.inr rfl) Tryz.ntmps195 rfl ((hyk3.block _ (by omega) (by omega)).trans ((hyk2.block _ (by omega) (by omega)).trans ((hy1.block _ (by omega) (by omega)).trans hDv))) fun y hy hys=>⟨_,zdM (v:=vs acc) ((vq1 t4)) rfl rfl (zaa (i:=0) ((hy.block _ (by omega) (by omega)).trans e2) rfl) (zdM (v:=vi 0) ((vq1 t5)) rfl rfl (zaa (i:=0) ((hy.block _ (by omega) (by omega)).trans e3) rfl) zae),?_⟩
  rw[h3]
  exact⟨rfl,Keep.to_ext (Keep.to_ext (Keep.to_ext (Keep.to_ext h1.e rfl (fun i hi=>by omega) hy1) rfl (fun i hi=>by omega) hyk2) rfl (fun i hi=>by omega) hyk3) rfl (fun i hi=>by omega) hy⟩
 ·have hlv:=(Array.getElem?_eq_some_iff.1 h1.2.2).1
  refine go trivial ?_
  refine zdL (.inr rfl) Tryz.ntmps195 rfl hDv fun y hy hys=>⟨_,zdM (v:=vs []) ((vq1 t4)) rfl rfl (zaa (i:=0) ((hy.block _ (by omega) (by omega)).trans h1.2.1) rfl) (zdM (v:=vi er) ((vq1 t5)) rfl rfl (zaa (i:=0) ((hy.block _ (by omega) (by omega)).trans h1.2.2) rfl) zae),?_⟩
  rw[h3]
  exact⟨rfl,Keep.to_ext h1.1 rfl (fun i hi=>by omega) hy⟩
theorem zdA(bare:Lab):∀(k:Nat) (s acc:Lab),(unD bare k s acc).1.length≤acc.length+s.length
 |k,[],acc=>by cases k<;>simp[unD]
 |k+1,c::s,acc=>by
  rw[unD]
  have:=zdA bare k s acc
  rw[List.length_cons];omega
 |0,c::s,acc=>by
  rw[unD,List.length_cons]
  split
  ·split
   ·have:=zdA bare (escD s).2.1 s (acc++ [(escD s).1])
    rw[List.length_append,List.length_singleton]at this;omega
   ·simp
  ·split
   ·simp
   ·have:=zdA bare 0 s (acc++ [c])
    rw[List.length_append,List.length_singleton]at this;omega
theorem zhg(w:World)(p:Lab)(hl:p.length≤1000000000):Fn Tryz.prog 128 #[vs p] w (fun v w'=>v= .tuple #[vs (labD p).1,vi (labD p).2]∧Ext w w'):=by
 refine enter Tryz.func128 Tryz.ntmps128 rfl rfl ?_
 refine go trivial ?_
 refine rc trivial (zds w p [46] hl) ?_
 rintro _ w1 ⟨rfl,hE1⟩
 have hul:=zdA [46] 0 p []
 rw[List.length_nil]at hul
 unfold labD errP
 obtain⟨⟨l,e⟩,hq⟩:∃q,unD [46] 0 p []=q:=⟨_,rfl⟩
 rw[hq]at hul ⊢
 simp only at hul ⊢
 by_cases he:e=0
 ·have d1:decide (e=0)=true:=decide_eq_true he
  simp only[if_pos he]
  refine rgo d1 ?_
  refine rc trivial (zex w1 l (by omega)) ?_
  rintro _ w2 ⟨rfl,hE2⟩
  by_cases hc:errL l=0
  ·have d2:decide (errL l=0)=true:=decide_eq_true hc
   rw[if_pos hc]
   refine rgo d2 ?_
   refine zag (.inr rfl) Tryz.ntmps128 rfl (zac (vr0) (zac (vr0) zae)) ?_
   exact⟨rfl,hE1.trans hE2⟩
  ·have d2:decide (errL l=0)=false:=decide_eq_false hc
   rw[if_neg hc]
   refine rgo d2 ?_
   refine zag (.inr rfl) Tryz.ntmps128 rfl (zac (vr0) (zac (vr0) zae)) ?_
   exact⟨rfl,hE1.trans hE2⟩
 ·have d1:decide (e=0)=false:=decide_eq_false he
  simp only[if_neg he]
  refine rgo d1 ?_
  refine zag (.inr rfl) Tryz.ntmps128 rfl (zac (vr0) (zac (vr0) zae)) ?_
  exact⟨rfl,hE1⟩
theorem cut_more{s:Lab}{f i:Nat}(hf:f≤i)(hi:i<s.length):(s.drop f).take (i+1 - f)=(s.drop f).take (i - f)++ [s[i]]:=by
 rw[show i+1 - f=(i - f)+1 by omega,List.take_add_one,List.getElem?_drop,show f+(i - f)=i by omega,List.getElem?_eq_getElem hi]
 rfl
theorem zc6:∀(s:Lab) (t:Bool) (cur:Lab),(splD t cur s).1.length≤s.length+1∧∀p∈(splD t cur s).1,p.length≤cur.length+s.length
 | [],t,cur=>by cases t<;>simp[splD]
 |c::s,true,cur=>by
  obtain⟨h1,h2⟩:=zc6 s false (cur++ [c])
  rw[splD]
  refine⟨by rw[List.length_cons];omega,fun p hp=>?_⟩
  have:=h2 p hp
  rw[List.length_append,List.length_singleton]at this
  rw[List.length_cons];omega
 |c::s,false,cur=>by
  rw[splD]
  split
  ·obtain⟨h1,h2⟩:=zc6 s true (cur++ [c])
   refine⟨by rw[List.length_cons];omega,fun p hp=>?_⟩
   have:=h2 p hp
   rw[List.length_append,List.length_singleton]at this
   rw[List.length_cons];omega
  ·split
   ·obtain⟨h1,h2⟩:=zc6 s false []
    refine⟨by simp only[List.length_cons];omega,fun p hp=>?_⟩
    rcases List.mem_cons.1 hp with rfl|hp
    ·rw[List.length_cons];omega
    ·have:=h2 p hp
     rw[List.length_nil]at this
     rw[List.length_cons];omega
   ·obtain⟨h1,h2⟩:=zc6 s false (cur++ [c])
    refine⟨by rw[List.length_cons];omega,fun p hp=>?_⟩
    have:=h2 p hp
    rw[List.length_append,List.length_singleton]at this
    rw[List.length_cons];omega
structure SpI(w:World)(s:Lab)(B:Nat)(A:World)(f:Nat)(t:Bool)(out:List Lab):Prop where
 e:Ext w A
 hB:w.heap.size+5≤B
 c0:A.heap[w.heap.size]? =some (.cells #[vs s] 9 (0,0))
 c2:∃sv,A.heap[w.heap.size+2]? =some (.cells #[sv] 23 (0,0))∧Own (w.heap.size+1) A 9 sv (out.map vs)∧∀i,some i=sv.ownBlock→i=w.heap.size+1∨B≤i
 c3:A.heap[w.heap.size+3]? =some (.cells #[vi f] 3 (0,0))
 c4:A.heap[w.heap.size+4]? =some (.cells #[.bool t] 4 (0,0))
theorem SpI.lt{w:World}{s:Lab}{B:Nat}{A:World}{f:Nat}{t:Bool}{out:List Lab}(h:SpI w s B A f t out):w.heap.size+4<A.heap.size:=(Array.getElem?_eq_some_iff.1 h.c4).1
theorem SpI.keep{w:World}{s:Lab}{B:Nat}{A X:World}{f:Nat}{t:Bool}{out:List Lab}{S:Nat→Prop}(h:SpI w s B A f t out)(hk:Keep S A X)(hS:∀i,S i→w.heap.size+5≤i∧i<B):SpI w s B X f t out:=by
 have hlt:=h.lt
 have hb:∀j,j<w.heap.size+5→X.heap[j]? =A.heap[j]?:=fun j hj=>hk.block _ (by omega) fun hs=>by have:=(hS _ hs).1;omega
 obtain⟨sv,h1,h2,h3⟩:=h.c2
 exact⟨Keep.to_ext h.e rfl (fun i hi=>by have:=(hS i hi).1;omega) hk,h.hB,(hb _ (by omega)).trans h.c0,⟨sv,(hb _ (by omega)).trans h1,h2.keep hk fun i hi hs=>by have:=hS i hs;have:=h3 i hi;omega,h3⟩,(hb _ (by omega)).trans h.c3,(hb _ (by omega)).trans h.c4⟩
theorem SpI.ext{w:World}{s:Lab}{B:Nat}{A X:World}{f:Nat}{t:Bool}{out:List Lab}(h:SpI w s B A f t out)(hk:Ext A X):SpI w s B X f t out:=h.keep hk fun _ h=>h.elim
theorem SpI.turn{w:World}{s:Lab}{B:Nat}{A X:World}{f:Nat}{t t':Bool}{out:List Lab}(h:SpI w s B A f t out)(hk:Keep (fun i=>i=w.heap.size+4) A X)(h4:X.heap[w.heap.size+4]? =some (.cells #[.bool t'] 4 (0,0))):SpI w s B X f t' out:=by
 have hlt:=h.lt
 have hB:=h.hB
 have hb:∀j,j<w.heap.size+4→X.heap[j]? =A.heap[j]?:=fun j hj=>hk.block _ (by omega) (by omega)
 obtain⟨sv,h1,h2,h3⟩:=h.c2
 exact⟨Keep.to_ext h.e rfl (fun i hi=>by omega) hk,h.hB,(hb _ (by omega)).trans h.c0,⟨sv,(hb _ (by omega)).trans h1,h2.keep hk fun i hi hs=>by have:=h3 i hi;omega,h3⟩,(hb _ (by omega)).trans h.c3,h4⟩
theorem zhf(w:World)(s:Lab)(hl:s.length≤1000000000):Fn Tryz.prog 127 #[vs s] w (fun v w'=>Ext w w'∧(((splD false [] s).2=true∧v= .tuple #[.slice Option.none 0 0,vi 2])∨((splD false [] s).2=false∧∃sv,v= .tuple #[sv,vi 0]∧Row w' sv ((splD false [] s).1.map vs)))):=by
 refine enter Tryz.func127 Tryz.ntmps127 rfl rfl ?_
 refine go trivial ?_
 refine zan ?_
 intro w1 hE1 hs1 hA0
 refine rq ?_;intro gd K hgd hK
 try simp only[go_sem]
 refine zfn (z:=vs []) rfl rfl rfl rfl ?_
 intro w2 hE2 hs2 hown2
 try simp only[go_sem]
 refine zaz (P:=Tryz.prog) rfl rfl rfl (zat w2 _) (by simp) (by simp) ?_
 intro x1 hx1 hbx hkx
 rw[zau]at hx1
 have hEx:Ext w2 x1:=Keep.to_ext (Ext.alloc w2 _) rfl (fun b hb=>by omega) hkx
 try simp only[go_sem]
 refine hK _ _ ?_;clear hK hgd;clear K;try clear gd
 refine go trivial ?_
 obtain⟨hEY,hsY,hY0,hY1⟩:=zct x1 (.cells #[vi 0] 3 (0,0)) (.cells #[.bool false] 4 (0,0))
 refine rq ?_;intro gd K hgd hK
 try simp only[go_sem]
 refine zaz (P:=Tryz.prog) rfl rfl rfl hY0 (by simp) (by simp) ?_
 intro x2 hx2 hbx2 hkx2
 rw[hsY]at hx2
 try simp only[go_sem]
 simp only[zau]
 refine zaz (P:=Tryz.prog) rfl rfl rfl ((hkx2.block _ (by rw[hsY];omega) (by omega)).trans hY1) (by simp) (by simp) ?_
 intro w3 hs3 hbx3 hkx3
 try simp only[go_sem]
 refine hK _ _ ?_;clear hK hgd;clear K;try clear gd
 have hE3:Ext x1 w3:=Keep.to_ext (Keep.to_ext hEY rfl (fun b hb=>by omega) hkx2) rfl (fun b hb=>by omega) hkx3
 have hB3:=(hkx3.block x1.heap.size (by omega) (by omega)).trans hbx2
 have hsx:x1.heap.size=w.heap.size+3:=by omega
 have hsx':x1.heap.size+1=w.heap.size+4:=by omega
 have hsw:w2.heap.size=w.heap.size+2:=by omega
 simp only[zau]
 rw[hsx']at hbx3 ⊢
 rw[hsx]at hB3 ⊢
 rw[hsw,hs1]at hbx ⊢
 rw[hs1]at hown2
 have hB2:=Ext.at hE3 hbx
 refine go trivial ?_
 have c0:zad w3 (some ⟨w.heap.size,0,Option.none⟩)=some (vs s):=zaa (Ext.at hE3 (Ext.at hEx (hE2.at hA0))) rfl
 refine rc c0 (zcm w3 s (by omega)) ?_
 rintro _ w4 ⟨hE4,cap,rfl,hit⟩
 refine rgo trivial ?_
 have hs4:=hE4.size
 have hI4:SpI w s (w4.heap.size+2) w4 0 false []:=⟨(((hE1.trans hE2).trans hEx).trans hE3).trans hE4,by omega,hE4.at (Ext.at hE3 (Ext.at hEx (hE2.at hA0))),⟨_,hE4.at hB2,((hown2.ext hEx).ext hE3).ext hE4,fun i hi=> .inl (by cases hi;rfl)⟩,hE4.at hB3,hE4.at hbx3⟩
 obtain⟨D,hD⟩:∃D,w4.heap.size=D:=⟨_,rfl⟩
 rw[hD]at hI4
 have hDw:w.heap.size+5≤D:=by omega
 refine zav (Q:=fun e σ' ds' v'=>e= .normal∧ds'=[{target:= .collected D,args:=#[]}]∧v'.heap[D]? =some (.deferred (some []))∧(σ' 1= .pointer (some ⟨w.heap.size,0,Option.none⟩)∧σ' 4= .pointer (some ⟨w.heap.size+2,0,Option.none⟩)∧σ' 5= .pointer (some ⟨w.heap.size+3,0,Option.none⟩)∧σ' 6= .pointer (some ⟨w.heap.size+4,0,Option.none⟩))∧
  ∃f t out,SpI w s (D+2) v' f t out∧out.length≤s.length∧f≤s.length∧splD false [] s=(out++ [s.drop f],t)) ?_ ?_
 ·refine zcG (g:=185) (cap:=cap) (vq0) rfl (hit (fun b=>w.heap.size+1≤b∧b≤w.heap.size+4) (fun b hb=>by omega)) (Keep.refl _ _) (Nat.le_refl _) (fun b hb=>by omega)
   (fun x A args h=>by rw[h];rfl)
   (fun pre A=>∃f t out,SpI w s (D+2) A f t out∧out.length≤pre.length∧f≤pre.length∧splD false [] s=(out++(splD t ((s.drop f).take (pre.length - f)) (s.drop pre.length)).1,(splD t ((s.drop f).take (pre.length - f)) (s.drop pre.length)).2))
   (fun _ _ _=>False) ?_ (fun _ _ _ _ h _=>h.elim) ?_ ?_ ?_ (fun _ _ _ _ _ _ _ h _=>h.elim)
  ·rintro pre A X ⟨f,t,out,h1,h2⟩ hk
   exact⟨f,t,out,h1.keep hk (fun i hi=>by unfold two at hi;omega),h2⟩
  ·exact⟨0,false,[],hI4,by simp,by simp,by simp⟩
  ·rintro lp pre x suf A args hxs hszA ⟨f,t,out,hI,hol,hfl,hsp⟩ rfl
   obtain⟨hk,rfl⟩:=zbp hxs
   dsimp only
   refine go trivial ?_
   refine⟨rfl,KeepB.refl _ _ _,fun A2 hA2=>?_⟩
   rw[hD]at hszA hA2 ⊢
   have hI2:=hI.keep hA2 (fun i hi=>by unfold two at hi;omega)
   have hs2':=hA2.size
   clear hI
   obtain⟨i,hi⟩:∃i,pre.length=i:=⟨_,rfl⟩
   simp only[hi]at hk hsp hol hfl ⊢
   obtain⟨c,hc⟩:∃c,s[i]=c:=⟨_,rfl⟩
   have hcm:=cut_more hfl hk
   rw[hc]at hcm ⊢
   rw[List.drop_eq_getElem_cons hk,hc]at hsp
   have hpl:∀y:UInt8×Nat,(pre++ [y]).length=i+1:=fun y=>by simp[hi]
   have c4:zad A2 (some ⟨w.heap.size+4,0,Option.none⟩)=some (.bool t):=zaa hI2.c4 rfl
   have hi2:(i:Int)+1=((i+1:Nat):Int):=by push_cast;rfl
   have hbv:zal c= .int .u8 (c.toNat:Int):=rfl
   cases t with
   |true=>
    rw[splD,←hcm]at hsp
    refine go c4 ?_
    refine rq ?_;intro gd K hgd hK
    try simp only[go_sem]
    refine zaz rfl rfl rfl hI2.c4 (by simp) (by simp) ?_
    intro z1 hzs1 hzb1 hzk1
    try simp only[go_sem]
    refine hK _ _ ?_;clear hK hgd;clear K;try clear gd
    refine go trivial ?_
    exact⟨⟨f,false,out,hI2.turn hzk1 hzb1,by rw[hpl];omega,by rw[hpl];omega,by rw[hpl];exact hsp⟩,hzk1.toB (by omega) (fun j hj h=>by omega)⟩
   |false=>
    rw[splD]at hsp
    by_cases h92:c=92
    ·have d2:decide ((c.toNat:Int)=92)=true:=by subst h92;rfl
     rw[if_pos h92,←hcm]at hsp
     refine go (an3 c4 hbv d2) ?_
     refine rq ?_;intro gd K hgd hK
     try simp only[go_sem]
     refine zaz rfl rfl rfl hI2.c4 (by simp) (by simp) ?_
     intro z1 hzs1 hzb1 hzk1
     try simp only[go_sem]
     refine hK _ _ ?_;clear hK hgd;clear K;try clear gd
     refine go trivial ?_
     exact⟨⟨f,true,out,hI2.turn hzk1 hzb1,by rw[hpl];omega,by rw[hpl];omega,by rw[hpl];exact hsp⟩,hzk1.toB (by omega) (fun j hj h=>by omega)⟩
    have d2:decide ((c.toNat:Int)=92)=false:=decide_eq_false fun h=>h92 (UInt8.toNat_inj.1 (by have:(92:UInt8).toNat=92:=rfl;omega))
    rw[if_neg h92]at hsp
    by_cases h46:c=46
    rotate_left
    ·have d3:decide ((c.toNat:Int)=46)=false:=decide_eq_false fun h=>h46 (UInt8.toNat_inj.1 (by have:(46:UInt8).toNat=46:=rfl;omega))
     rw[if_neg h46,←hcm]at hsp
     refine go (an4 c4 hbv d2 d3) ?_
     exact⟨⟨f,false,out,hI2,by rw[hpl];omega,by rw[hpl];omega,by rw[hpl];exact hsp⟩,KeepB.refl _ _ _⟩
    have d3:decide ((c.toNat:Int)=46)=true:=by subst h46;rfl
    rw[if_pos h46]at hsp
    obtain⟨sv,hsvb,hown,hob⟩:=hI2.c2
    have k0:zad A2 (some ⟨w.heap.size,0,Option.none⟩)=some (vs s):=zaa hI2.c0 rfl
    have k2:zad A2 (some ⟨w.heap.size+2,0,Option.none⟩)=some sv:=zaa hsvb rfl
    have k3:zad A2 (some ⟨w.heap.size+3,0,Option.none⟩)=some (vi f):=zaa hI2.c3 rfl
    have z0:(0:Int)≤(f:Int):=by omega
    have z1:(f:Int)≤(i:Int):=by omega
    have z2:(i:Int)≤(s.length:Int):=by omega
    have hlt:=hI2.lt
    have hB5:=hI2.hB
    refine go (an4 c4 hbv d2 d3) ?_
    refine za4 (fun i=>i==6||i==9||i==10) [(0,true),(1,true),(2,true),(3,true),(4,true),(7,true),(8,true),(5,false),(6,false),(9,false),(10,false)] NoS mixed (by kernel_rfl) ?_;intro gd K x hgd hx hxe hK;have hx0:=za5 hxe;clear hxe
    have q0:=zab hx0 k0
    have q2:=zab hx0 k2
    have q3:=zab hx0 k3
    have hsx:=hx0.size
    simp (disch:=first|omega|assumption|rfl) only[go_sem,q0,q2,q3,z0,z1,z2]
    refine zaK (z:=vs []) rfl rfl rfl rfl rfl ?_
    intro y1 hy1 hys1 hyo
    refine⟨.inr hy1.keep,?_⟩
    simp (disch:=first|omega|assumption|rfl) only[go_sem]
    have hxy:=hx0.trans hy1
    refine zaG (e:=9) (hown.ext hxy) hyo.row rfl rfl rfl rfl rfl rfl (vr0) (vr0) (fun q hq=>by simp at hq;subst hq;rfl) (by simp;omega) (by decide) (by omega) ?_
    intro sv' y2 hown2' hX2 hK2 hb2
    refine⟨.inl rfl,?_⟩
    simp (disch:=first|omega|assumption|rfl) only[go_sem,hi2]
    have hsy1:=hy1.size
    have hsK2:=hK2.size
    have hbk:∀j,j<w.heap.size+5→¬j=w.heap.size+1→y2.heap[j]? =A2.heap[j]?:=fun j hj hn=>(hK2.block j (by omega) (fun hh=>by have:=hob _ hh;omega)).trans (hxy.block j (by omega) fun h=>h)
    refine zaz (P:=Tryz.prog) rfl rfl (by obtain⟨a,c,rfl⟩:=hown2'.slice;rfl) ((hbk _ (by omega) (by omega)).trans hsvb) (by simp) (by simp) ?_
    intro y3 hs3' hb3 hk3
    refine⟨.inl rfl,?_⟩
    simp (disch:=first|omega|assumption|rfl) only[go_sem,hi2]
    refine zaz (P:=Tryz.prog) rfl rfl rfl ((hk3.block _ (by omega) (by omega)).trans ((hbk _ (by omega) (by omega)).trans hI2.c3)) (by simp) (by simp) ?_
    intro y4 hs4' hb4 hk4
    refine⟨.inl rfl,?_⟩
    simp (disch:=first|omega|assumption|rfl) only[go_sem]
    refine hK _ _ ?_;clear hK hgd;clear K;try clear gd
    refine go trivial ?_
    have hbk4:∀j,j<w.heap.size+5→¬j=w.heap.size+1→¬j=w.heap.size+2→¬j=w.heap.size+3→y4.heap[j]? =A2.heap[j]?:=fun j hj h1 h2 h3=>(hk4.block j (by omega) h3).trans ((hk3.block j (by omega) h2).trans (hbk j hj h1))
    have hob':∀j,some j=sv'.ownBlock→j=w.heap.size+1∨D+2≤j:=fun j hj=>by
     rcases hb2 j hj with h|h
     ·exact hob j h
     ·omega
    refine⟨⟨i+1,false,out++ [(s.drop f).take (i - f)],⟨Keep.to_ext (Keep.to_ext (Keep.to_ext (hI2.e.trans hxy) rfl (fun j hj=>by have:=hob j hj;omega) hK2) rfl (fun j hj=>by omega) hk3) rfl (fun j hj=>by omega) hk4,hB5,(hbk4 _ (by omega) (by omega) (by omega) (by omega)).trans hI2.c0,⟨sv',(hk4.block _ (by omega) (by omega)).trans hb3,?_,hob'⟩,hb4,(hbk4 _ (by omega) (by omega) (by omega) (by omega)).trans hI2.c4⟩,by rw[hpl];simp;omega,by rw[hpl];omega,?_⟩,
     ((hxy.toB (by omega) (fun _ _ h=>h.elim)).trans (hK2.toB (by omega) (fun j hj h=>by have:=hob j h;omega))).trans ((hk3.toB (by omega) (fun j hj h=>by omega)).trans (hk4.toB (by omega) (fun j hj h=>by omega)))⟩
    ·rw[List.map_append]
     exact(hown2'.keep hk3 fun j hj h=>by have:=hob' j hj;omega).keep hk4 fun j hj h=>by have:=hob' j hj;omega
    ·rw[hpl,hsp,Nat.sub_self,List.take_zero,List.append_assoc]
     rfl
  ·rintro v hsz ⟨f,t,out,h1,h2,h3,h4⟩ hDv
   rw[hD]at hDv
   have hz:s.zipIdx.length=s.length:=by simp
   rw[hz]at h2 h3 h4
   rw[List.drop_length]at h4
   have h5:splD false [] s=(out++ [s.drop f],t):=by
    rw[h4]
    have:(s.drop f).take (s.length - f)=s.drop f:=List.take_of_length_le (by rw[List.length_drop];omega)
    rw[this]
    cases t<;>rw[splD]
   exact⟨rfl,by rw[hD],hDv,⟨vr0,vr0,vr0,vr0⟩,f,t,out,h1,h2,h3,h5⟩
 rintro _ σ2 ds v ⟨rfl,rfl,hDv,⟨t1,t4,t5,t6⟩,f,t,out,hI,hol,hfl,hsp⟩
 have hlv:=hI.lt
 have c4:zad v (some ⟨w.heap.size+4,0,Option.none⟩)=some (.bool t):=zaa hI.c4 rfl
 cases t with
 |true=>
  refine go (an2 t6 c4) ?_
  refine zee (v:= .slice Option.none 0 0) (v':=vi 2) (.inr rfl) (by rfl) Tryz.ntmps127 (vr0) (vr0) hDv ?_
  intro Z hkZ hsZ
  exact⟨Keep.to_ext hI.e rfl (fun i hi=>by omega) hkZ,.inl ⟨by rw[hsp],rfl⟩⟩
 |false=>
  obtain⟨sv,hsvb,hown,hob⟩:=hI.c2
  have k0:zad v (some ⟨w.heap.size,0,Option.none⟩)=some (vs s):=zaa hI.c0 rfl
  have k2:zad v (some ⟨w.heap.size+2,0,Option.none⟩)=some sv:=zaa hsvb rfl
  have k3:zad v (some ⟨w.heap.size+3,0,Option.none⟩)=some (vi f):=zaa hI.c3 rfl
  have z0:(0:Int)≤(f:Int):=by omega
  have z2:(f:Int)≤(s.length:Int):=by omega
  refine go (an2 t6 c4) ?_
  refine za4 (fun i=>i==5) [(0,true),(1,true),(2,true),(3,true),(4,false),(5,false),(6,true),(7,true)] NoS mixed (by kernel_rfl) ?_;intro gd K x hgd hx hxe hK;have hx0:=za5 hxe;clear hxe
  have q0:=zab hx0 k0
  have q2:=zab hx0 k2
  have q3:=zab hx0 k3
  have hsx:=hx0.size
  simp (disch:=first|omega|assumption|rfl) only[go_sem,t1,t4,t5,q0,q2,q3,z0,z2]
  refine zaK (z:=vs []) rfl rfl rfl rfl rfl ?_
  intro y1 hy1 hys1 hyo
  refine⟨.inr hy1.keep,?_⟩
  simp (disch:=first|omega|assumption|rfl) only[go_sem]
  have hxy:=hx0.trans hy1
  have hsy1:=hy1.size
  refine zaG (e:=9) (hown.ext hxy) hyo.row rfl rfl rfl rfl rfl rfl (vr0) (vr0) (fun q hq=>by simp at hq;subst hq;rfl) (by simp;omega) (by decide) (by omega) ?_
  intro sv' y2 hown2' hX2 hK2 hb2
  refine⟨.inl rfl,?_⟩
  simp (disch:=first|omega|assumption|rfl) only[go_sem]
  refine hK _ _ ?_;clear hK hgd;clear K;try clear gd
  have hlD:=(Array.getElem?_eq_some_iff.1 hDv).1
  have hB5:=hI.hB
  refine go trivial ?_
  refine zee (v:=sv') (v':=vi 0) (.inr rfl) (by rfl) Tryz.ntmps127 (vr0) (vr0) ((hK2.block D (by omega) (fun hh=>by have:=hob _ hh;omega)).trans (Ext.at hxy hDv)) ?_
  intro Z hkZ hsZ
  refine⟨Keep.to_ext (Keep.to_ext (hI.e.trans hxy) rfl (fun j hj=>by have:=hob j hj;omega) hK2) rfl (fun i hi=>by omega) hkZ,.inr ⟨by rw[hsp],sv',rfl,?_⟩⟩
  rw[hsp]
  simp only[List.map_append,List.map_cons,List.map_nil]
  exact(hown2'.keep hkZ fun j hj h=>by
   rcases hb2 j hj with h2|h2
   ·have:=hob j h2;omega
   ·omega).row
def encL(x:Lab)(_:World)(args:Array Value):Prop:=args=#[vs x]
theorem revDrop{n:Nm}{k:Nat}(hk:k<n.length):(n.take (k+1)).reverse=n[k]::(n.take k).reverse:=by
 rw[zak hk];simp
theorem labelsIt{W0:World}{C:Nat→Prop}{bn:Nat}{nv:Value}{n:Nm}(hbn:W0.heap[bn]? =some (.cells #[nv] 24 (0,0)))(hn:Row W0 nv (n.map vs))(hC1:¬C bn)(hCw:n≠ []→∀b,C b→b<W0.heap.size→∀a m c,nv= .slice (some a) m c→a.block≠b)(hnl:n.length≤1000000000000)
  (hnb:n≠ []→∀a m c,nv= .slice (some a) m c→a.block<W0.heap.size):
  Iter Tryz.prog 238 #[.pointer (some ⟨bn,0,Option.none⟩)] W0 W0.heap.size C n.reverse encL:=by
 intro lp J Jx W hW hnW hJ hJx hY h0
 obtain⟨an,cn,rfl,hcn,hgn⟩:=hn
 simp only[List.length_map]at hcn hgn hbn hCw hnb
 have hln:=(Array.getElem?_eq_some_iff.1 hbn).1
 have p0:zad W (some ⟨bn,0,Option.none⟩)=some (.slice an n.length cn):=zab hW (zaa hbn rfl)
 refine enter Tryz.func238 Tryz.ntmps238 rfl rfl ?_
 repeat refine c_r ?_
 refine rg2 p0 Nat.add_zero ?_
 repeat refine c_r ?_
 refine zaF (fun m σ ds v=>ds=[]∧∃(pre:List Lab) (k:Nat),n.reverse=pre++(n.take k).reverse∧k≤m∧k≤n.length∧σ 3=vi ((k:Int) - 1)∧σ 0= .func (.yield lp) #[] #[]∧σ 1= .pointer (some ⟨bn,0,Option.none⟩)∧J pre v∧KeepB W0.heap.size C W v) n.length ?_ ?_
 ·exact⟨rfl,[],n.length,by simp,Nat.le_refl _,Nat.le_refl _,vq0,vq0,vq0,h0,KeepB.refl _ _ _⟩
 rintro m σ ds v ⟨rfl,pre,k,hd,hkm,hkn,h3,hs0,hs1,hjj,hKB⟩
 have p1:zad v (some ⟨bn,0,Option.none⟩)=some (.slice an n.length cn):=zbB hKB hln hC1 p0
 repeat refine c_r ?_
 refine rg1 h3 ?_
 repeat refine c_r ?_
 refine wc0 ?_ ?_
 ·intro hge
  simp only[decide_eq_true_eq,ge_iff_le]at hge
  obtain⟨j,rfl⟩:∃j,k=j+1:=⟨k - 1,by omega⟩
  have hj:j<n.length:=by omega
  have ej:((j+1:Nat):Int) - 1=(j:Int):=by omega
  rw[ej]at h3
  have hj0:(0:Int)≤(j:Int):=by omega
  have hj1:(j:Int)<(n.length:Int):=by omega
  have hg:=hgn j (by simpa using hj)
  rw[List.getElem_map]at hg
  obtain⟨xn,rfl⟩:=Option.isSome_iff_exists.1 (zaf hg)
  have hnn:n≠ []:=List.length_pos_iff.1 (by omega)
  have hgv:zad v (adr (some xn) j)=some (vs n[j]):=by
   have hb:=hnb hnn xn _ _ rfl
   have h1:=zab hW hg
   refine zbB hKB (by rw[zbP];exact hb) (fun hc=>?_) h1
   rw[zbP]at hc
   exact hCw hnn _ hc hb xn _ _ rfl rfl
  have hxs:n.reverse=pre++n[j]::(n.take j).reverse:=by rw[hd,revDrop hj]
  repeat refine c_r ?_
  refine rq ?_;intro gd K hgd hK
  try simp (disch:=first|omega|assumption|rfl) only[go_sem,h3,hs0,hs1,p1,hj0,hj1,hgv]
  refine Yld.mono (hY pre n[j] (n.take j).reverse v _ hxs hjj hKB rfl) ?_
  rintro u x (⟨rfl,hj',hk'⟩| ⟨rfl,hjx⟩)
  ·try simp only[go_sem]
   refine hK _ _ ?_;clear hK hgd;clear K;try clear gd
   repeat refine c_r ?_
   refine wc0 ?_ ?_
   ·intro h;simp at h
   ·intro _
    repeat refine c_r ?_
    refine rg1 h3 ?_
    refine zba ?_
    exact⟨m - 1,by omega,rfl,pre++ [n[j]],j,by rw[hxs];simp,by omega,by omega,vq0,(vq1 hs0),(vq1 hs1),hj',hKB.trans hk'⟩
  ·try simp only[go_sem]
   refine hK _ _ ?_;clear hK hgd;clear K;try clear gd
   repeat refine c_r ?_
   refine wc0 ?_ ?_
   ·intro _
    repeat refine c_r ?_
    refine za0 (by simp) rfl (.inr ⟨_,_,_,hxs,hjx⟩)
   ·intro h;simp at h
 ·intro hge
  simp only[decide_eq_false_iff_not,ge_iff_le]at hge
  have hk0:k=0:=by omega
  subst hk0
  repeat refine c_r ?_
  refine za0 (by simp) rfl (.inl ?_)
  rw[hd];simpa using hjj
theorem zgJ{w:World}{nv:Value}(hn:∃a n c,nv= .slice a n c):
  Fn Tryz.prog 196 #[nv] w (fun v w'=>v= .func (.func 238) #[] #[.pointer (some ⟨w.heap.size,0,Option.none⟩)]∧Ext w w'∧w'.heap.size=w.heap.size+1∧w'.heap[w.heap.size]? =some (.cells #[nv] 24 (0,0))):=by
 obtain⟨an,nn,cn,rfl⟩:=hn
 refine enter Tryz.func196 Tryz.ntmps196 rfl rfl ?_
 repeat refine c_r ?_
 refine rg0 ?_
 repeat refine c_r ?_
 refine zan ?_
 intro w1 hE1 hs1 hA
 refine rg0 ?_
 repeat refine c_r ?_
 refine rt0 Tryz.ntmps196 ?_
 exact⟨rfl,hE1,hs1,hA⟩
theorem row_lt{w:World}{nv:Value}{l:List Value}(h:Row w nv l)(h0:l≠ []):∀a m c,nv= .slice (some a) m c→a.block<w.heap.size:=by
 intro a m c hv
 obtain⟨a',c',e,hc,hg⟩:=h
 rw[hv]at e
 injection e with e1
 have h1:=hg 0 (List.length_pos_iff.2 h0)
 rw[←e1]at h1
 have:=zcD (show w.cell? (a.add 0)=some _ from h1)
 rwa [zbP]at this
theorem NLen_ok(w:World)(nv:Value)(n:Nm)(hn:Row w nv (n.map vs))(hl:∀l∈n,l.length≤1000000000)(hnl:n.length≤1000000000):
  Fn Tryz.prog 130 #[nv] w (fun v w'=>v=vi (lenN n)∧Ext w w'):=by
 have hn0:=hn
 obtain⟨an,cn,hnv,_⟩:=id hn
 rw[hnv]
 refine enter Tryz.func130 Tryz.ntmps130 rfl rfl ?_
 repeat refine c_r ?_
 refine rg0 ?_
 repeat refine c_r ?_
 rw[←hnv]
 refine rq ?_;intro gd K hgd hK
 try simp only[go_sem]
 have hB3:=zat w (.cells #[vi 0] 3 (0,0))
 have hE4:=Ext.alloc w (.cells #[vi 0] 3 (0,0))
 have hs4:=zau w (.cells #[vi 0] 3 (0,0))
 revert hB3 hE4 hs4
 generalize w.alloc (.cells #[vi 0] 3 (0,0))=w1
 intro hB3 hE4 hs4
 refine zci (P:=Tryz.prog) (t:=3) (j:=0) (l:=[vi 0]) hB3 (by simp) rfl rfl rfl ?_
 intro w2 hs2 hB2 hk2
 try simp only[go_sem]
 refine hK _ _ ?_;clear hK hgd;clear K;try clear gd
 simp only[List.set_cons_zero]at hB2
 have hE2:Ext w w2:=Keep.to_ext hE4 rfl (fun b hb=>by omega) hk2
 repeat refine c_r ?_
 refine rq ?_;intro gd K hgd hK
 try simp only[go_sem]
 refine Fn.mono (zgJ ⟨_,_,_,hnv⟩) ?_
 rintro _ w3 ⟨rfl,hE3,hs3,hbn⟩
 try simp only[go_sem]
 refine hK _ _ ?_;clear hK hgd;clear K;try clear gd
 have hE23:=hE2.trans hE3
 have hB2':=hE3.at hB2
 have hn3:=hn.ext hE23
 have hlt:n≠ []→∀a m c,nv= .slice (some a) m c→a.block<w.heap.size:=fun hnn=>row_lt hn (by simpa using hnn)
 repeat refine c_r ?_
 refine zcG (g:=238) (cap:=#[.pointer (some ⟨w2.heap.size,0,Option.none⟩)]) (vq0) rfl (labelsIt (C:=fun b=>b=w.heap.size) hbn hn3 (by omega) (fun h0 b hb _ a m c hv=>by have:=hlt h0 a m c hv;omega) (by omega) (fun h0 a m c hv=>by have:=hlt h0 a m c hv;omega)) (Keep.refl _ _) (Nat.le_refl _) (fun b hb=>by omega)
  (fun x A args h=>by rw[h];rfl)
  (fun pre A=>Ext w A∧A.heap[w.heap.size]? =some (.cells #[vi (1+(pre.map fun l=>1+l.length).sum:Nat)] 3 (0,0)))
  (fun _ _ _=>False) ?_ (fun _ _ _ _ h _=>h.elim) ?_ ?_ ?_ (fun _ _ _ _ _ _ _ h _=>h.elim)
 ·rintro pre A B ⟨h1,h2⟩ hk
  exact⟨Keep.to_ext h1 rfl (fun b hb=>by unfold two at hb;omega) hk,(hk.block _ (Array.getElem?_eq_some_iff.1 h2).1 (by unfold two;omega)).trans h2⟩
 ·exact⟨hE23,hB2'⟩
 ·rintro lp pre x suf A args hxs hszA ⟨hEA,hb⟩ rfl
  have hpl:pre.length+1≤n.length:=by
   have:=congrArg List.length hxs
   simp at this;omega
  have hpm:∀l∈pre,l.length≤1000000000:=fun l hl'=>hl l (List.mem_reverse.1 (by rw[hxs];simp[hl']))
  have hxm:x.length≤1000000000:=hl x (List.mem_reverse.1 (by rw[hxs];simp))
  have hsb:=zc5 pre hpm
  have hsum:(((1+(pre.map fun l=>1+l.length).sum:Nat):Int))+(1+(x.length:Int))=((1+((pre++ [x]).map fun l=>1+l.length).sum:Nat):Int):=by
   rw[List.map_append,List.sum_append,List.map_cons,List.map_nil,List.sum_cons,List.sum_nil];omega
  have hs2':((1+(pre.map fun l=>1+l.length).sum:Nat):Int)≤2000000000000000000:=by omega
  refine rq ?_;intro gd K hgd hK
  try simp only[go_sem]
  refine hK _ _ ?_;clear hK hgd;clear K;try clear gd
  refine zba ?_
  refine⟨rfl,KeepB.refl _ _ _,fun Y hY=>?_⟩
  have hbY:=(hY.block _ (by omega) (by unfold two;omega)).trans hb
  have hEY:Ext w Y:=Keep.to_ext hEA rfl (fun b hb=>by unfold two at hb;omega) hY
  have hsY:=hY.size
  have q0:zad Y (some ⟨w.heap.size,0,Option.none⟩)=some (vi (1+(pre.map fun l=>1+l.length).sum:Nat)):=zaa hbY rfl
  repeat refine c_r ?_
  refine rq ?_;intro gd K hgd hK
  try simp (disch:=first|omega|assumption|rfl) only[go_sem,q0,hsum]
  refine zci (P:=Tryz.prog) (t:=3) (j:=0) (l:=[vi (1+(pre.map fun l=>1+l.length).sum:Nat)]) hbY (by simp) rfl rfl rfl ?_
  intro z hz hbz hkz
  try simp only[go_sem]
  refine hK _ _ ?_;clear hK hgd;clear K;try clear gd
  simp only[List.set_cons_zero]at hbz
  repeat refine c_r ?_
  exact⟨⟨Keep.to_ext hEY rfl (fun b hb=>by omega) hkz,hbz⟩,hkz.toB (by omega) (fun i _ h=>h)⟩
 ·intro A hszA ⟨hEA,hb⟩ hD
  have q0:zad A (some ⟨w.heap.size,0,Option.none⟩)=some (vi (1+(n.reverse.map fun l=>1+l.length).sum:Nat)):=zaa hb rfl
  have hrev:(n.reverse.map fun l=>1+l.length).sum=(n.map fun l=>1+l.length).sum:=by rw[List.map_reverse,List.sum_reverse]
  rw[hrev]at q0
  repeat refine c_r ?_
  refine rg1 q0 ?_
  repeat refine c_r ?_
  refine zdK (v:=vi (lenN n)) (.inr rfl) (by rfl) Tryz.ntmps130 (vr0) hD ?_
  intro Z hkZ hsZ
  exact⟨rfl,Keep.to_ext hEA rfl (fun b hb=>by omega) hkZ⟩
theorem zdF{n:Nm}{i:Nat}(hi:i<n.length)(h:∀j (h:j<n.length),j<i→errL n[j]=0)(he:errL n[i]≠0):zaR n=errL n[i]:=by
 unfold zaR
 have:n.find? (fun l=>decide (errL l≠0))=some n[i]:=by
  refine findL_at (pre:=n.take i) (suf:=n.drop (i+1)) (zcj hi) (fun y hy=>?_) (by simpa using he)
  obtain⟨j,hj,rfl⟩:=List.getElem_of_mem hy
  rw[List.getElem_take]
  simp at hj
  simpa using h j (by omega) (by omega)
 rw[this]
theorem zdj{n:Nm}(h:∀j (h:j<n.length),errL n[j]=0):zaR n=if 255<lenN n then 3 else 0:=by
 unfold zaR
 have:n.find? (fun l=>decide (errL l≠0))=Option.none:=zfL (fun y hy=>by
  obtain⟨j,hj,rfl⟩:=List.getElem_of_mem hy
  simpa using h j hj)
 rw[this]
theorem zd7(w:World)(nv:Value)(n:Nm)(hn:Row w nv (n.map vs))(hl:∀l∈n,l.length≤1000000000)(hnl:n.length≤1000000000):
  Fn Tryz.prog 52 #[nv] w (fun v w'=>v=vi (zaR n)∧Ext w w'):=by
 have hn0:=hn
 obtain⟨an,cn,rfl,hcn,hgn⟩:=hn
 simp only[List.length_map]at hcn hgn hn0
 rw[List.length_map]
 refine enter Tryz.func52 Tryz.ntmps52 rfl rfl ?_
 repeat refine c_r ?_
 refine rg0 ?_
 repeat refine c_r ?_
 refine rg0 ?_
 repeat refine c_r ?_
 refine zaF (fun m σ ds A=>ds=[]∧∃(i:Nat),i+m=n.length∧σ 3=vi i∧σ 0= .slice an n.length cn∧Ext w A∧∀j (h:j<n.length),j<i→errL n[j]=0) n.length ?_ ?_
 ·exact⟨rfl,0,by omega,vr0,vq0,Keep.refl _ _,fun j h hj=>absurd hj (by omega)⟩
 rintro m σ ds A ⟨rfl,i,him,h3,h0,hEA,hlow⟩
 repeat refine c_r ?_
 refine rg2 h3 h0 ?_
 repeat refine c_r ?_
 refine wc0 ?_ ?_
 ·intro hlt
  simp only[decide_eq_true_eq]at hlt
  have hi:i<n.length:=by omega
  have hi0:(0:Int)≤(i:Int):=by omega
  have hi1:(i:Int)<(n.length:Int):=by omega
  have hi1':(i:Int)+1=((i+1:Nat):Int):=by push_cast;rfl
  have hg:=zab hEA (hgn i (by simpa using hi))
  rw[List.getElem_map]at hg
  obtain⟨xn,rfl⟩:=Option.isSome_iff_exists.1 (zaf hg)
  repeat refine c_r ?_
  refine rq ?_;intro gd K hgd hK
  try simp (disch:=first|omega|assumption|rfl) only[go_sem,h0,h3,hi0,hi1,hg]
  refine Fn.mono (zdy A n[i] (by have:=hl n[i] (List.getElem_mem hi);omega)) ?_
  rintro _ A1 ⟨rfl,hE1⟩
  try simp only[go_sem]
  refine hK _ _ ?_;clear hK hgd;clear K;try clear gd
  repeat refine c_r ?_
  refine rg0 ?_
  repeat refine c_r ?_
  refine wc0 ?_ ?_
  ·intro hne
   simp only[Bool.not_eq_true',decide_eq_false_iff_not]at hne
   repeat (first|refine c_r ?_|refine rg0 ?_)
   refine rt0 Tryz.ntmps52 ?_
   exact⟨by rw[zdF hi hlow hne],hEA.trans hE1⟩
  ·intro heq
   simp only[Bool.not_eq_false',decide_eq_true_eq]at heq
   repeat refine c_r ?_
   refine rg2 h3 hi1' ?_
   repeat refine c_r ?_
   refine⟨m - 1,by omega,rfl,i+1,by omega,vq0,(vq1 h0),hEA.trans hE1,fun j hj hji=>?_⟩
   by_cases hj2:j=i
   ·subst hj2;exact heq
   ·exact hlow j hj (by omega)
 ·intro hge
  simp only[decide_eq_false_iff_not]at hge
  have hgood:=zdj (n:=n) (fun j hj=>hlow j hj (by omega))
  repeat refine c_r ?_
  refine rq ?_;intro gd K hgd hK
  try simp (disch:=first|omega|assumption|rfl) only[go_sem,h0]
  refine Fn.mono (RLen_ok A _ n (hn0.ext hEA) hl hnl) ?_
  rintro _ A1 ⟨rfl,hE1⟩
  try simp only[go_sem]
  refine hK _ _ ?_;clear hK hgd;clear K;try clear gd
  repeat refine c_r ?_
  refine wc0 ?_ ?_
  ·intro hb
   simp only[decide_eq_true_eq]at hb
   repeat (first|refine c_r ?_|refine rg0 ?_)
   refine rt0 Tryz.ntmps52 ?_
   exact⟨by rw[hgood,if_pos (by omega)],hEA.trans hE1⟩
  ·intro hb
   simp only[decide_eq_false_iff_not]at hb
   repeat (first|refine c_r ?_|refine rg0 ?_)
   refine rt0 Tryz.ntmps52 ?_
   exact⟨by rw[hgood,if_neg (by omega)],hEA.trans hE1⟩
theorem zew(w:World)(nv:Value)(n:Nm)(hn:Row w nv (n.map vs))(hl:∀l∈n,l.length≤1000000000)(hnl:n.length≤1000000000):
  Fn Tryz.prog 68 #[nv] w (fun v w'=>v=vi (zaR n)∧Ext w w'):=by
 have hn0:=hn
 obtain⟨an,cn,rfl,hcn,hgn⟩:=hn
 simp only[List.length_map]at hcn hgn hn0
 rw[List.length_map]
 refine enter Tryz.func68 Tryz.ntmps68 rfl rfl ?_
 repeat refine c_r ?_
 refine rg0 ?_
 repeat refine c_r ?_
 refine rg0 ?_
 repeat refine c_r ?_
 refine zaF (fun m σ ds A=>ds=[]∧∃(i:Nat),i+m=n.length∧σ 8=vi i∧σ 7=vi n.length∧σ 6= .slice an n.length cn∧σ 0= .slice an n.length cn∧Ext w A∧∀j (h:j<n.length),j<i→errL n[j]=0) n.length ?_ ?_
 ·exact⟨rfl,0,by omega,vr0,vq0,vq0,vq0,Keep.refl _ _,fun j h hj=>absurd hj (by omega)⟩
 rintro m σ ds A ⟨rfl,i,him,h8,h7,h6,h0,hEA,hlow⟩
 repeat refine c_r ?_
 refine rg2 h8 h7 ?_
 repeat refine c_r ?_
 refine wc0 ?_ ?_
 ·intro hlt
  simp only[decide_eq_true_eq]at hlt
  have hi:i<n.length:=by omega
  have hi0:(0:Int)≤(i:Int):=by omega
  have hi1:(i:Int)<(n.length:Int):=by omega
  have hi1':(i:Int)+1=((i+1:Nat):Int):=by push_cast;rfl
  have hg:=zab hEA (hgn i (by simpa using hi))
  rw[List.getElem_map]at hg
  obtain⟨xn,rfl⟩:=Option.isSome_iff_exists.1 (zaf hg)
  repeat refine c_r ?_
  refine rg5 h6 h8 hi0 hi1 hg ?_
  repeat refine c_r ?_
  refine rq ?_;intro gd K hgd hK
  try simp only[go_sem]
  refine Fn.mono (zex A n[i] (by have:=hl n[i] (List.getElem_mem hi);omega)) ?_
  rintro _ A1 ⟨rfl,hE1⟩
  try simp only[go_sem]
  refine hK _ _ ?_;clear hK hgd;clear K;try clear gd
  repeat refine c_r ?_
  refine rg0 ?_
  repeat refine c_r ?_
  refine wc0 ?_ ?_
  ·intro hne
   simp only[Bool.not_eq_true',decide_eq_false_iff_not]at hne
   repeat (first|refine c_r ?_|refine rg0 ?_)
   refine rt0 Tryz.ntmps68 ?_
   exact⟨by rw[zdF hi hlow hne],hEA.trans hE1⟩
  ·intro heq
   simp only[Bool.not_eq_false',decide_eq_true_eq]at heq
   repeat refine c_r ?_
   refine rg2 h8 hi1' ?_
   repeat refine c_r ?_
   refine⟨m - 1,by omega,rfl,i+1,by omega,vq0,(vq1 h7),(vq1 h6),(vq1 h0),hEA.trans hE1,fun j hj hji=>?_⟩
   by_cases hj2:j=i
   ·subst hj2;exact heq
   ·exact hlow j hj (by omega)
 ·intro hge
  simp only[decide_eq_false_iff_not]at hge
  have hgood:=zdj (n:=n) (fun j hj=>hlow j hj (by omega))
  repeat refine c_r ?_
  refine rq ?_;intro gd K hgd hK
  try simp (disch:=first|omega|assumption|rfl) only[go_sem,h0]
  refine Fn.mono (NLen_ok A _ n (hn0.ext hEA) hl hnl) ?_
  rintro _ A1 ⟨rfl,hE1⟩
  try simp only[go_sem]
  refine hK _ _ ?_;clear hK hgd;clear K;try clear gd
  repeat refine c_r ?_
  refine wc0 ?_ ?_
  ·intro hb
   simp only[decide_eq_true_eq]at hb
   repeat (first|refine c_r ?_|refine rg0 ?_)
   refine rt0 Tryz.ntmps68 ?_
   exact⟨by rw[hgood,if_pos (by omega)],hEA.trans hE1⟩
  ·intro hb
   simp only[decide_eq_false_iff_not]at hb
   repeat (first|refine c_r ?_|refine rg0 ?_)
   refine rt0 Tryz.ntmps68 ?_
   exact⟨by rw[hgood,if_neg (by omega)],hEA.trans hE1⟩
theorem zbt{w:World}{v:Value}{ps:List Lab}(h:Row w v (ps.map vs)):∃a c,v= .slice a ps.length c∧∀i (hi:i<ps.length),∃x,a=some x∧zad w (adr (some x) i)=some (vs ps[i]):=by
 obtain⟨a,c,rfl,_,hg⟩:=h
 refine⟨a,c,by rw[List.length_map],fun i hi=>?_⟩
 have g:=hg i (by rw[List.length_map];exact hi)
 rw[List.getElem_map]at g
 obtain⟨x,rfl⟩:=Option.isSome_iff_exists.1 (zaf g)
 exact⟨x,rfl,g⟩
theorem lab_len(p:Lab):(labD p).1.length≤p.length:=by
 have:=zdA [46] 0 p []
 unfold labD
 split
 ·simpa using this
 ·simp
theorem zeG(f:Bool)(p:Lab)(l:List Lab)(out:Nm):zcJ f (p::l) out=if p=[]∧f=false∧l=[] then(out,true,0) else if (labD p).2=0 then zcJ false l (out++ [(labD p).1]) else([],false,(labD p).2):=by rw[zcJ]
theorem parts_ok(w:World)(s:Lab)(hl:s.length≤1000000000):Fn Tryz.prog 67 #[vs s] w (fun v w'=>Ext w w'∧∃sv,v= .tuple #[sv,.bool (zbl s).2.1,vi (zbl s).2.2]∧Own w.heap.size w' 9 sv ((zbl s).1.map vs)∧(zbl s).1.length≤s.length+1∧∀x∈(zbl s).1,x.length≤s.length):=by
 have hsl:=zc6 s false []
 refine enter Tryz.func67 Tryz.ntmps67 rfl rfl ?_
 refine go trivial ?_
 refine rc trivial (zhf w s hl) ?_
 rintro _ w1 ⟨hE1,hv⟩
 unfold zbl
 rcases hv with ⟨h1,rfl⟩| ⟨h1,pv,rfl,hrow⟩
 ·rw[if_pos h1]
  refine rgo trivial ?_
  refine zag (.inr rfl) Tryz.ntmps67 rfl (zac (vr0) (zac (vr0) (zac (vr0) zae))) ?_
  exact⟨hE1,_,rfl,Own.nil _ _ _,by simp,by simp⟩
 rw[h1,if_neg (by decide)]
 obtain⟨ps,hps⟩:∃ps,(splD false [] s).1=ps:=⟨_,rfl⟩
 rw[hps]at hrow hsl ⊢
 rw[List.length_nil]at hsl
 obtain⟨a,c,rfl,hg⟩:=zbt hrow
 refine rgo trivial ?_
 refine rq ?_;intro gd K hgd hK
 try simp only[go_sem]
 refine zfn (z:=vs []) rfl rfl rfl rfl ?_
 intro w2 hE2 hs2 hown2
 try simp only[go_sem]
 refine hK _ _ ?_;clear hK hgd;clear K;try clear gd
 have hs1:=hE1.size
 have hE12:=hE1.trans hE2
 refine go trivial ?_
 refine zbh ps.length (fun i σ v=>(σ 5= .slice a ps.length c∧σ 21= .slice a ps.length c∧σ 22=vi ps.length∧σ 23=vi i)∧Ext w v∧Ext w1 v∧∃sv out,σ 7=sv∧Own w1.heap.size v 9 sv (out.map vs)∧out.length≤i∧(∀x∈out,x.length≤s.length)∧zcJ true ps []=zcJ (decide (i=0)) (ps.drop i) out) ?_ ?_ ?_
 ·exact⟨⟨vr0,vr0,vr0,vr0⟩,hE12,hE2,_,[],vr0,hown2,Nat.le_refl _,(fun x h=>by cases h),rfl⟩
 ·rintro i σ v hi r ⟨⟨s5,s21,s22,s23⟩,hE,hEv,sv,out,s7,hown,hol,hox,hpd⟩
  obtain⟨x,rfl,g0⟩:=hg i hi
  have g:=zab hEv g0
  obtain⟨p,hp⟩:∃p,ps[i]=p:=⟨_,rfl⟩
  have hpl:p.length≤s.length:=by have:=hsl.2 p (hp▸List.getElem_mem hi);omega
  rw[hp]at g
  rw[List.drop_eq_getElem_cons hi,hp,zeG]at hpd
  have hi0:(0:Int)≤(i:Int):=by omega
  have hi1:(i:Int)<(ps.length:Int):=by omega
  have hi2:(i:Int)+1=((i+1:Nat):Int):=by push_cast;rfl
  refine go (an8 s5 s21 s22 s23 s7 r g (an2 hi0 hi1)) ?_
  refine zav (Q:=fun e σ' ds' v'=>e= .normal∧ds'=[]∧v=v'∧(σ' 5= .slice (some x) ps.length c∧σ' 21= .slice (some x) ps.length c∧σ' 22=vi ps.length∧σ' 23=vi i∧σ' 7=sv∧σ' 9=vs p)∧σ' 40= .bool (decide (p=[]∧decide (i=0)=false∧ps.drop (i+1)=[]))) ?_ ?_
  ·by_cases c1:p=[]
   ·have d1:decide (p=[])=true:=decide_eq_true c1
    by_cases c2:i=0
    ·have d2:decide ((0:Int)<(i:Int))=false:=decide_eq_false (by omega)
     rw[show decide (p=[]∧decide (i=0)=false∧ps.drop (i+1)=[])=false from decide_eq_false fun h=>by have:=of_decide_eq_false h.2.1;omega]
     refine rgg [(2,30),(6,34)] (an7 s5 s21 s22 s23 s7 d1 d2) ?_
     exact⟨rfl,rfl,rfl,⟨(vq1 s5),(vq1 s21),(vq1 s22),(vq1 s23),(vq1 s7),vr0⟩,vr0⟩
    ·have d2:decide ((0:Int)<(i:Int))=true:=decide_eq_true (by omega)
     obtain⟨t,ht⟩:∃t,decide ((i:Int)=(ps.length:Int) - 1)=t:=⟨_,rfl⟩
     rw[show decide (p=[]∧decide (i=0)=false∧ps.drop (i+1)=[])=t from by
      rw[←ht]
      refine decide_eq_decide.2 ⟨fun h=>?_,fun h=>⟨c1,decide_eq_false c2,List.drop_of_length_le (by omega)⟩⟩
      have:=congrArg List.length h.2.2
      rw[List.length_drop,List.length_nil]at this
      omega]
     refine rgg [(2,30),(6,34)] (an8 s5 s21 s22 s23 s7 d1 d2 ht) ?_
     exact⟨rfl,rfl,rfl,⟨(vq1 s5),(vq1 s21),(vq1 s22),(vq1 s23),(vq1 s7),vr0⟩,vr0⟩
   ·have d1:decide (p=[])=false:=decide_eq_false c1
    rw[show decide (p=[]∧decide (i=0)=false∧ps.drop (i+1)=[])=false from decide_eq_false fun h=>c1 h.1]
    refine rgg [(2,30),(6,34)] (an6 s5 s21 s22 s23 s7 d1) ?_
    exact⟨rfl,rfl,rfl,⟨(vq1 s5),(vq1 s21),(vq1 s22),(vq1 s23),(vq1 s7),vr0⟩,vr0⟩
  rintro _ σ1 _ v1 ⟨rfl,rfl,hv1,⟨g5,g21,g22,g23,g7,g9⟩,g40⟩
  subst hv1
  by_cases hend:p=[]∧decide (i=0)=false∧ps.drop (i+1)=[]
  ·rw[if_pos hend]at hpd
   rw[decide_eq_true hend]at g40
   refine go (an2 g7 g40) ?_
   refine zag (.inr rfl) Tryz.ntmps67 rfl (zac ((vr1 g7)) (zac (vr0) (zac (vr0) zae))) ?_
   rw[hpd]
   exact⟨hE,_,rfl,hown.mono hs1,by simp only;omega,hox⟩
  rw[if_neg hend]at hpd
  rw[decide_eq_false hend]at g40
  refine go (an2 g9 g40) ?_
  refine rc g9 (zhg v p (by omega)) ?_
  rintro _ v2 ⟨rfl,hE2'⟩
  by_cases he:(labD p).2=0
  ·have d3:decide ((labD p).2=0)=true:=decide_eq_true he
   rw[if_pos he]at hpd
   refine rgo d3 ?_
   have hsv:=hE.size
   have hsv1:=hEv.size
   have hsv2:=hE2'.size
   refine rq ?_;intro gd K hgd hK
   try simp (disch:=first|omega|assumption|rfl) only[go_sem,g7]
   refine zaK (z:=vs []) rfl rfl rfl rfl rfl ?_
   intro y1 hy1 hys1 hyo
   try simp (disch:=first|omega|assumption|rfl) only[go_sem,g7]
   have hxy:=hE2'.trans hy1
   have hsy:=hy1.size
   refine zaG (e:=9) (hown.ext hxy) hyo.row rfl rfl rfl rfl rfl rfl ((vr1 g7)) (vr0) (fun q hq=>by simp at hq;subst hq;rfl) (by simp;omega) (by decide) (by omega) ?_
   intro sv' y2 hown2' hX2 hK2 hb2
   try simp only[go_sem]
   refine hK _ _ ?_;clear hK hgd;clear K;try clear gd
   refine go (an5 g5 g21 g22 g23 hi2) ?_
   refine⟨rfl,⟨(vq1 g5),(vq1 g21),(vq1 g22),(vq1 hi2)⟩,hX2 w (hE.trans hxy) (by omega),hX2 w1 (hEv.trans hxy) (Nat.le_refl _),sv',out++ [(labD p).1],vr0,by rw[List.map_append];exact hown2',by simp;omega,fun y hy=>?_,?_⟩
   ·rcases List.mem_append.1 hy with hy|hy
    ·exact hox y hy
    ·rw[List.mem_singleton.1 hy];have:=lab_len p;omega
   ·rw[hpd,show decide (i+1=0)=false from rfl]
  ·have d3:decide ((labD p).2=0)=false:=decide_eq_false he
   rw[if_neg he]at hpd
   refine rgo d3 ?_
   refine zag (.inr rfl) Tryz.ntmps67 rfl (zac (vr0) (zac (vr0) (zac (vr0) zae))) ?_
   rw[hpd]
   exact⟨hE.trans hE2',_,rfl,Own.nil _ _ _,by simp,by simp⟩
 ·rintro σ v r ⟨⟨s5,s21,s22,s23⟩,hE,hEv,sv,out,s7,hown,hol,hox,hpd⟩
  rw[List.drop_length,zcJ]at hpd
  refine go (an6 s5 s21 s22 s23 s7 r) ?_
  refine zag (.inr rfl) Tryz.ntmps67 rfl (zac ((vr1 s7)) (zac (vr0) (zac (vr0) zae))) ?_
  rw[hpd]
  exact⟨hE,_,rfl,hown.mono hs1,by simp only;omega,hox⟩
theorem zft{w:World}{v:Value}{l:List Value}(hr:Row w v l):Fn Tryz.prog 65 #[v] w (fun u w'=>Row w' u l∧Ext w w'∧∀x n k,u= .slice x n k→∃n' k',v= .slice x n' k'):=by
 obtain⟨a,c,rfl,hc,hl⟩:=hr
 refine enter Tryz.func65 Tryz.ntmps65 rfl rfl ?_
 repeat refine c_r ?_
 refine rg0 ?_
 repeat refine c_r ?_
 refine rq ?_;intro gd K hgd hK
 try simp only[go_sem]
 have hcl:slD Tryz.prog (some (TypeDesc.slice 9)) (Value.slice a l.length c) Option.none (some (Value.int IntKind.i64 ↑l.length)) (some (Value.int IntKind.i64 ↑l.length))=some (.slice a l.length l.length):=s_clip hc (by rfl)
 rw[hcl]
 try simp only[go_sem]
 refine hK _ _ ?_;clear hK hgd;clear K;try clear gd
 repeat refine c_r ?_
 refine rt0 Tryz.ntmps65 ?_
 exact⟨⟨a,l.length,rfl,Nat.le_refl _,hl⟩,Keep.refl _ _,fun x n k h=>by cases h;exact⟨_,_,rfl⟩⟩
theorem zev(w:World)(s:Lab)(ov:Value)(o:Nm)(hl:s.length≤500000000)(ho:Row w ov (o.map vs))(hoT:NmT o):Fn Tryz.prog 18 #[vs s,ov] w (fun v w'=>Ext w w'∧∃nv,v= .tuple #[nv,vi (zcA s o).2]∧Row w' nv ((zcA s o).1.map vs)∧BlkB w.heap.size w' nv):=by
 have none_blk:∀z:World,BlkB w.heap.size z (.slice Option.none 0 0):=fun z a n c h=>by cases h
 have ho2:=hoT.2
 refine enter Tryz.func18 Tryz.ntmps18 rfl rfl ?_
 refine go trivial ?_
 unfold zcA
 by_cases h1:s=[64]
 ·have d1:decide (s=[64])=true:=decide_eq_true h1
  rw[if_pos h1]
  refine go d1 ?_
  refine rc trivial (zhj ho (by omega)) ?_
  rintro cv w1 ⟨hown,hE1⟩
  refine rd trivial (zft hown.row) ?_
  rintro uv w2 ⟨hrow,hE2,hcl⟩
  refine rgo trivial ?_
  refine zag (.inr rfl) Tryz.ntmps18 rfl (zac (vr0) (zac (vr0) zae)) ?_
  refine⟨hE1.trans hE2,_,rfl,hrow,fun a n c hv=>?_⟩
  obtain⟨n',k',hv'⟩:=hcl _ _ _ hv
  have h1:=hown.ge (b:=a.block) (by rw[hv'];rfl)
  exact⟨h1.1,by have:=hE2.size;omega⟩
 have d1:decide (s=[64])=false:=decide_eq_false h1
 rw[if_neg h1]
 by_cases h2:s=[46]
 ·have d2:decide (s=[46])=true:=decide_eq_true h2
  rw[if_pos h2]
  refine go (an2 d1 d2) ?_
  refine rq ?_;intro gd K hgd hK
  try simp only[go_sem]
  refine zfn (z:=vs []) rfl rfl rfl rfl ?_
  intro w2 hE2 hs2 hown2
  try simp only[go_sem]
  refine hK _ _ ?_;clear hK hgd;clear K;try clear gd
  refine go trivial ?_
  refine zag (.inr rfl) Tryz.ntmps18 rfl (zac (vr0) (zac (vr0) zae)) ?_
  exact⟨hE2,_,rfl,hown2.row,hown2.blk⟩
 have d2:decide (s=[46])=false:=decide_eq_false h2
 rw[if_neg h2]
 by_cases h3:s=[]
 ·have d3:decide (s=[])=true:=decide_eq_true h3
  rw[if_pos h3]
  refine go (an3 d1 d2 d3) ?_
  refine zag (.inr rfl) Tryz.ntmps18 rfl (zac (vr0) (zac (vr0) zae)) ?_
  exact⟨Keep.refl _ _,_,rfl,(Own.nil 0 _ 0).row,none_blk _⟩
 have d3:decide (s=[])=false:=decide_eq_false h3
 rw[if_neg h3]
 refine go (an3 d1 d2 d3) ?_
 refine rc trivial (parts_ok w s (by omega)) ?_
 rintro _ w1 ⟨hE1,sv,rfl,hown,hpl,hpx⟩
 obtain⟨⟨n,wh,e⟩,hq⟩:∃q,zbl s=q:=⟨_,rfl⟩
 rw[hq]at hown hpl hpx ⊢
 simp only at hown hpl hpx ⊢
 have hs1:=hE1.size
 by_cases he:e=0
 rotate_left
 ·have d4:decide (e=0)=false:=decide_eq_false he
  rw[if_neg he]
  refine rgo d4 ?_
  refine zag (.inr rfl) Tryz.ntmps18 rfl (zac (vr0) (zac (vr0) zae)) ?_
  exact⟨hE1,_,rfl,(Own.nil 0 _ 0).row,none_blk _⟩
 have d4:decide (e=0)=true:=decide_eq_true he
 rw[if_pos he]
 refine rgo d4 ?_
 refine zav (Q:=fun e' σ' ds' v'=>e'= .normal∧ds'=[]∧Ext w v'∧∃nv,σ' 6=nv∧Row v' nv ((n++if wh=true then [] else o).map vs)∧BlkB w.heap.size v' nv) ?_ ?_
 ·cases wh with
  |true=>
   refine go trivial ?_
   rw[if_pos rfl,List.append_nil]
   exact⟨rfl,rfl,hE1,_,vr0,hown.row,hown.blk⟩
  |false=>
   refine go trivial ?_
   rw[if_neg (by decide),List.map_append]
   refine rq ?_;intro gd K hgd hK
   try simp only[go_sem]
   refine zaG (e:=9) hown (ho.ext hE1) rfl rfl rfl rfl rfl rfl (vr0) (vr0) (fun q hq=>by obtain⟨_,_,rfl⟩:=List.mem_map.1 hq;rfl) (by simp;omega) (by decide) (by omega) ?_
   intro sv' y2 hown2' hX2 hK2 hb2
   try simp only[go_sem]
   refine hK _ _ ?_;clear hK hgd;clear K;try clear gd
   refine go trivial ?_
   exact⟨rfl,rfl,hX2 w hE1 (Nat.le_refl _),_,vr0,hown2'.row,hown2'.blk⟩
 rintro _ σ1 _ w2 ⟨rfl,rfl,hE2,nv,g6,hrow,hblk⟩
 obtain⟨m,hm⟩:∃m,(n++if wh=true then [] else o)=m:=⟨_,rfl⟩
 have hml:m.length≤1000000000∧∀l∈m,l.length≤1000000000:=by
  rw[←hm]
  cases wh with
  |true=>rw[if_pos rfl,List.append_nil];exact⟨by omega,fun l hl=>by have:=hpx l hl;omega⟩
  |false=>
   rw[if_neg (by decide),List.length_append]
   refine⟨by omega,fun l hl=>?_⟩
   rcases List.mem_append.1 hl with hl|hl
   ·have:=hpx l hl;omega
   ·have:=hoT.1 l hl;omega
 rw[hm]at hrow ⊢
 refine go g6 ?_
 refine rc g6 (zew w2 nv m hrow hml.2 hml.1) ?_
 rintro _ w3 ⟨rfl,hE3⟩
 by_cases hc:zaR m=0
 ·have d5:decide (zaR m=0)=true:=decide_eq_true hc
  rw[if_pos hc]
  refine rgo (an2 d5 g6) ?_
  refine rc g6 (zft (hrow.ext hE3)) ?_
  rintro uv w4 ⟨hr4,hE4,hcl⟩
  refine rgo trivial ?_
  refine zag (.inr rfl) Tryz.ntmps18 rfl (zac (vr0) (zac (vr0) zae)) ?_
  refine⟨(hE2.trans hE3).trans hE4,_,rfl,hr4,fun a n' c hv=>?_⟩
  obtain⟨n2,k2,hv'⟩:=hcl _ _ _ hv
  have h1:=hblk _ _ _ hv'
  exact⟨h1.1,by have:=hE3.size;have:=hE4.size;omega⟩
 ·have d5:decide (zaR m=0)=false:=decide_eq_false hc
  rw[if_neg hc]
  refine rgo d5 ?_
  refine zag (.inr rfl) Tryz.ntmps18 rfl (zac (vr0) (zac (vr0) zae)) ?_
  exact⟨hE2.trans hE3,_,rfl,(Own.nil 0 _ 0).row,none_blk _⟩
def WdC(cs:List Value)(x:Lab×Bool):Prop:=cs=[vs x.1,.bool x.2]
def zaQ(e x:Int):Int:=if e=0 then x else e
structure Rdr(W0 w:World)(b:Nat)(ws:List (Lab×Bool))(ov:Value)(e:Int):Prop where
 ext:Ext W0 w
 low:W0.heap.size≤b
 at':∃wv,w.heap[b]? =some (.cells #[wv,ov,vi e] 162 (0,0))∧Rows 2 WdC W0 wv ws
 one:one ov=true
theorem Rdr.lt{W0 w:World}{b:Nat}{ws:List (Lab×Bool)}{ov:Value}{e:Int}(h:Rdr W0 w b ws ov e):b<w.heap.size:=by
 obtain⟨wv,h1,_⟩:=h.at'
 exact(Array.getElem?_eq_some_iff.1 h1).1
theorem Rdr.keep{W0 w x:World}{b:Nat}{ws:List (Lab×Bool)}{ov:Value}{e:Int}{S:Nat→Prop}(h:Rdr W0 w b ws ov e)(hk:Keep S w x)(hS:∀i,S i→W0.heap.size≤i∧¬i=b):Rdr W0 x b ws ov e:=by
 obtain⟨wv,h1,h2⟩:=h.at'
 exact⟨Keep.to_ext h.ext rfl (fun i hi=>(hS i hi).1) hk,h.low,⟨wv,(hk.block _ h.lt fun hs=>(hS _ hs).2 rfl).trans h1,h2⟩,h.one⟩
theorem Rdr.extx{W0 w x:World}{b:Nat}{ws:List (Lab×Bool)}{ov:Value}{e:Int}(h:Rdr W0 w b ws ov e)(hE:Ext w x):Rdr W0 x b ws ov e:=h.keep hE fun _ h=>h.elim
theorem zbL{W0 w:World}{b:Nat}{ws:List (Lab×Bool)}{ov:Value}{e:Int}(h:Rdr W0 w b ws ov e)(x:Int):Fn Tryz.prog 164 #[.pointer (some ⟨b,0,Option.none⟩),vi x] w (fun _ w'=>Rdr W0 w' b ws ov (zaQ e x)∧Keep (fun i=>i=b) w w'):=by
 obtain⟨wv,hb,hr⟩:=h.at'
 have c2:zad w (some ⟨b,2,Option.none⟩)=some (vi e):=zaa hb rfl
 unfold zaQ
 refine enter Tryz.func164 Tryz.ntmps164 rfl rfl ?_
 by_cases he:e=0
 ·have d1:decide (e=0)=true:=decide_eq_true he
  rw[if_pos he]
  refine go (an3 c2 d1 (Nat.zero_add 2)) ?_
  refine rq ?_;intro gd K hgd hK
  try simp (disch:=first|omega|assumption|rfl) only[go_sem,Nat.zero_add]
  refine zaz (P:=Tryz.prog) rfl rfl rfl hb (by simp) (by simp) ?_
  intro w1 hs1 hb1 hk1
  try simp only[go_sem]
  refine hK _ _ ?_;clear hK hgd;clear K;try clear gd
  refine go trivial ?_
  exact za0 (by simp) rfl ⟨⟨Keep.to_ext h.ext rfl (fun i hi=>by have:=h.low;omega) hk1,h.low,⟨wv,hb1,hr⟩,h.one⟩,hk1⟩
 ·have d1:decide (e=0)=false:=decide_eq_false he
  rw[if_neg he]
  refine go (an3 c2 d1 (Nat.zero_add 2)) ?_
  exact za0 (by simp) rfl ⟨h,Keep.refl _ _⟩
theorem zcu{W0 w:World}{b:Nat}{t:Lab}{q:Bool}{ws:List (Lab×Bool)}{ov:Value}{e:Int}(h:Rdr W0 w b ((t,q)::ws) ov e)(hl:ws.length≤1000000):Fn Tryz.prog 219 #[.pointer (some ⟨b,0,Option.none⟩)] w (fun v w'=>v=vs t∧Rdr W0 w' b ws ov (if q=true then zaQ e 2 else e)∧Keep (fun i=>i=b) w w'):=by
 obtain⟨wv,hb,hr⟩:=h.at'
 obtain⟨a,c,rfl,hc,hg⟩:=hr.open
 rw[List.length_cons]at hc
 obtain⟨cs,g0,hcs⟩:=hg 0 (by simp)
 simp only[List.getElem_cons_zero,Nat.zero_mul,zaC]at g0 hcs
 unfold WdC at hcs
 subst hcs
 have g:=zaj h.ext g0
 obtain⟨xa,rfl⟩:∃x,a=some x:=by
  cases a with
  |none=>cases g0
  |some x=>exact⟨x,rfl⟩
 have c0:zad w (some ⟨b,0,Option.none⟩)=some (.slice (some xa) (ws.length+1) c):=zaa hb rfl
 have hdr:=hr.drop (m:=1) (by simp)
 rw[List.drop_one,List.tail_cons,List.length_cons]at hdr
 have l0:(0:Int)<((ws.length+1:Nat):Int):=by omega
 have l1:(1:Int)≤((ws.length+1:Nat):Int):=by omega
 have l2:(1:Int)≤(c:Int):=by omega
 refine enter Tryz.func219 Tryz.ntmps219 rfl rfl ?_
 refine go trivial ?_
 refine rq ?_;intro gd K hgd hK
 try simp (disch:=first|omega|assumption|rfl) only[go_sem,c0,l0,Int.toNat_zero,Nat.zero_mul,zaC,g]
 refine zbv (P:=Tryz.prog) (l:=[vs t,.bool q]) rfl (fun v hv=>by simp at hv;rcases hv with rfl|rfl<;>rfl) rfl rfl ?_
 intro w1 hE1 hs1 hB1
 try simp only[go_sem]
 refine hK _ _ ?_;clear hK hgd;clear K;try clear gd
 have hb1:=Ext.at hE1 hb
 have c1:zad w1 (some ⟨b,0,Option.none⟩)=some (.slice (some xa) (ws.length+1) c):=zaa hb1 rfl
 refine go trivial ?_
 refine rq ?_;intro gd K hgd hK
 try simp (disch:=first|omega|assumption|rfl) only[go_sem,c1,l1,l2]
 refine zaz (P:=Tryz.prog) rfl rfl rfl hb1 (by simp) (by simp) ?_
 intro w2 hs2 hb2 hk2
 try simp only[go_sem]
 refine hK _ _ ?_;clear hK hgd;clear K;try clear gd
 have hlow:=h.low
 have hbl:=h.lt
 have hR2:Rdr W0 w2 b ws ov e:=⟨Keep.to_ext (h.ext.trans hE1) rfl (fun i hi=>by omega) hk2,h.low,⟨_,hb2,hdr⟩,h.one⟩
 have hk02:Keep (fun i=>i=b) w w2:=(hE1.mono fun _ _ h=>h.elim).trans hk2
 have hB2:=(hk2.block w.heap.size (by omega) (by omega)).trans hB1
 have t0:zad w2 (some ⟨w.heap.size,0,Option.none⟩)=some (vs t):=zaJ (j:=0) hB2 rfl
 have t1:zad w2 (some ⟨w.heap.size,1,Option.none⟩)=some (.bool q):=zaJ (j:=1) hB2 rfl
 cases q with
 |false=>
  refine go (an3 t0 t1 (Nat.zero_add 1)) ?_
  refine rt0 Tryz.ntmps219 ?_
  exact⟨rfl,hR2,hk02⟩
 |true=>
  refine go (an3 t0 t1 (Nat.zero_add 1)) ?_
  refine rc trivial (zbL hR2 2) ?_
  rintro _ w3 ⟨hR3,hk3⟩
  have u0:zad w3 (some ⟨w.heap.size,0,Option.none⟩)=some (vs t):=zaJ (j:=0) ((hk3.block w.heap.size (by omega) (by omega)).trans hB2) rfl
  refine rgo u0 ?_
  refine rt0 Tryz.ntmps219 ?_
  exact⟨rfl,hR3,hk02.trans hk3⟩
theorem num_ok{W0 w:World}{b:Nat}{t:Lab}{q:Bool}{ws:List (Lab×Bool)}{ov:Value}{e:Int}(hW:WX W0)(h:Rdr W0 w b ((t,q)::ws) ov e)(hl:ws.length≤1000000)(ht:t.length≤1000000000)(most:Nat)(hm:most≤4294967295):
  Fn Tryz.prog 170 #[.pointer (some ⟨b,0,Option.none⟩),.int .u64 most] w (fun v w'=>v= .int .u32 (decP most t).1∧Rdr W0 w' b ws ov (zaQ (if q=true then zaQ e 2 else e) (decP most t).2)∧Keep (fun i=>i=b) w w'):=by
 have hlow:=h.low
 refine enter Tryz.func170 Tryz.ntmps170 rfl rfl ?_
 refine go trivial ?_
 refine rc trivial (zcu h hl) ?_
 rintro _ w1 ⟨rfl,hR1,hk1⟩
 refine rd trivial (zcH (hW.ext hR1.ext) t most (by omega) (by omega)) ?_
 rintro _ w2 ⟨rfl,hE2⟩
 refine rgo trivial ?_
 refine rc trivial (zbL (hR1.extx hE2) (decP most t).2) ?_
 rintro _ w3 ⟨hR3,hk3⟩
 have hdl:=zeQ most t
 obtain⟨v,hv⟩:∃v,(decP most t).1=v:=⟨_,rfl⟩
 rw[hv]at hdl ⊢
 refine rgo trivial ?_
 refine rt0 Tryz.ntmps170 ?_
 exact⟨rfl,hR3,(hk1.trans (hE2.mono fun _ _ h=>h.elim)).trans hk3⟩
theorem name_ok{W0 w:World}{b:Nat}{t:Lab}{q:Bool}{ws:List (Lab×Bool)}{ov:Value}{o:Nm}{e:Int}(h:Rdr W0 w b ((t,q)::ws) ov e)(hl:ws.length≤1000000)(ht:t.length≤500000000)(ho:Row W0 ov (o.map vs))(hoT:NmT o):
  Fn Tryz.prog 171 #[.pointer (some ⟨b,0,Option.none⟩)] w (fun v w'=>Row w' v ((zcA t o).1.map vs)∧BlkB w.heap.size w' v∧Rdr W0 w' b ws ov (zaQ (if q=true then zaQ e 2 else e) (zcA t o).2)∧Keep (fun i=>i=b) w w'):=by
 refine enter Tryz.func171 Tryz.ntmps171 rfl rfl ?_
 refine go trivial ?_
 obtain⟨wv,hb,hr⟩:=h.at'
 have c1:zad w (some ⟨b,1,Option.none⟩)=some ov:=zaa hb rfl
 obtain⟨e1,he1⟩:∃e1,(if q=true then zaQ e 2 else e)=e1:=⟨_,rfl⟩
 rw[he1]
 have hho:=h.one
 refine zav (Q:=fun e' σ' ds' v'=>e'= .normal∧ds'=[]∧(∃nv,σ' 3=nv∧Row v' nv ((zcA t o).1.map vs)∧BlkB w.heap.size v' nv)∧σ' 4=vi (zcA t o).2∧σ' 0= .pointer (some ⟨b,0,Option.none⟩)∧Rdr W0 v' b ws ov e1∧Keep (fun i=>i=b) w v') ?_ ?_
 ·refine W_tree (fun i=>i==1||i==5||i==6) (.run [(0,true),(2,true),(3,true),(4,true)] (.fork 7 [1,5] (fun i=>if i=1 then(.run [(5,false),(6,false),(7,true),(8,true),(9,true),(10,true),(11,true)] .fin) else(.run [(1,false),(6,false),(7,true),(8,true),(9,true),(10,true),(11,true)] .fin)))) NoS mixed (by kernel_rfl) ?_;intro gd K x hgd hx hxe hK;have hx0:=za5 hxe;clear hxe
  have c1x:=zab hx0 c1
  simp (disch:=first|omega|assumption|rfl) only[go_sem,Nat.zero_add]
  simp only[zg6,allL_one];refine⟨?_,?_⟩
  ·simp (disch:=first|omega|assumption|rfl) only[go_sem]
   refine Fn.mono (zcu (h.extx hx0) hl) ?_
   rw[he1]
   rintro _ y1 ⟨rfl,hR1,hk1⟩
   refine⟨.inl rfl,?_⟩
   obtain⟨wv1,hb1,_⟩:=hR1.at'
   have q1:zad y1 (some ⟨b,1,Option.none⟩)=some ov:=zaa hb1 rfl
   simp (disch:=first|omega|assumption|rfl) only[go_sem,q1,Nat.zero_add]
   refine⟨.inl rfl,?_⟩
   refine Fn.mono (zev y1 t ov o ht (ho.ext hR1.ext) hoT) ?_
   rintro _ y2 ⟨hE2,nv,rfl,hrow,hbk⟩
   refine⟨.inl rfl,?_⟩
   simp (disch:=first|omega|assumption|rfl) only[go_sem]
   refine hK _ _ ?_;clear hK hgd;clear K;try clear gd
   exact⟨rfl,rfl,⟨nv,vr0,hrow,hbk.mono (by have:=hx0.size;have:=hk1.size;omega)⟩,vr0,vr0,hR1.extx hE2,((hx0.mono fun _ _ h=>h.elim).trans hk1).trans (hE2.mono fun _ _ h=>h.elim)⟩
  ·simp (disch:=first|omega|assumption|rfl) only[go_sem,c1x,Nat.zero_add]
   refine⟨.inl rfl,?_⟩
   refine Fn.mono (zcu (h.extx hx0) hl) ?_
   rw[he1]
   rintro _ y1 ⟨rfl,hR1,hk1⟩
   refine⟨.inl rfl,?_⟩
   simp (disch:=first|omega|assumption|rfl) only[go_sem]
   refine Fn.mono (zev y1 t ov o ht (ho.ext hR1.ext) hoT) ?_
   rintro _ y2 ⟨hE2,nv,rfl,hrow,hbk⟩
   refine⟨.inl rfl,?_⟩
   simp (disch:=first|omega|assumption|rfl) only[go_sem]
   refine hK _ _ ?_;clear hK hgd;clear K;try clear gd
   exact⟨rfl,rfl,⟨nv,vr0,hrow,hbk.mono (by have:=hx0.size;have:=hk1.size;omega)⟩,vr0,vr0,hR1.extx hE2,((hx0.mono fun _ _ h=>h.elim).trans hk1).trans (hE2.mono fun _ _ h=>h.elim)⟩
 rintro _ σ1 _ w1 ⟨rfl,rfl,⟨nv,s3,hrow,hbk⟩,s4,s0,hR1,hk1⟩
 refine go (an3 s3 s4 s0) ?_
 refine rc (an3 s3 s4 s0) (zbL hR1 (zcA t o).2) ?_
 rintro _ w2 ⟨hR2,hk2⟩
 refine rgo s3 ?_
 have hbl:=h.lt
 refine zag (.inr rfl) Tryz.ntmps171 rfl (zac ((vr1 s3)) zae) ?_
 exact⟨hrow.blocks fun a n c hv=>hk2.block _ (hbk a n c hv).2 (by have:=(hbk a n c hv).1;omega),hbk.ext hk2.size,hR2,hk1.trans hk2⟩
def errT(t:Lab):Int:=if (unD [] 0 t []).2=0∧255<(unD [] 0 t []).1.length then 3 else(unD [] 0 t []).2
theorem text_ok{W0 w:World}{b:Nat}{t:Lab}{q:Bool}{ws:List (Lab×Bool)}{ov:Value}{e:Int}(h:Rdr W0 w b ((t,q)::ws) ov e)(hl:ws.length≤1000000)(ht:t.length≤1000000000):
  Fn Tryz.prog 169 #[.pointer (some ⟨b,0,Option.none⟩)] w (fun v w'=>v=vs (unD [] 0 t []).1∧Rdr W0 w' b ws ov (zaQ e (errT t))∧Keep (fun i=>i=b) w w'):=by
 obtain⟨wv,hb,hr⟩:=h.at'
 obtain⟨a,c,rfl,hc,hg⟩:=hr.open
 rw[List.length_cons]at hc
 obtain⟨cs,g0,hcs⟩:=hg 0 (by simp)
 simp only[List.getElem_cons_zero,Nat.zero_mul,zaC]at g0 hcs
 unfold WdC at hcs
 subst hcs
 obtain⟨xa,rfl⟩:∃x,a=some x:=by
  cases a with
  |none=>cases g0
  |some x=>exact⟨x,rfl⟩
 have gt:=zab h.ext (zfU g0 (j:=0) (by simp))
 rw[zaC,List.getElem_cons_zero]at gt
 have c0:zad w (some ⟨b,0,Option.none⟩)=some (.slice (some xa) (ws.length+1) c):=zaa hb rfl
 have hdr:=hr.drop (m:=1) (by simp)
 rw[List.drop_one,List.tail_cons,List.length_cons]at hdr
 have l0:(0:Int)<((ws.length+1:Nat):Int):=by omega
 have l1:(1:Int)≤((ws.length+1:Nat):Int):=by omega
 have l2:(1:Int)≤(c:Int):=by omega
 have hlow:=h.low
 have hbl:=h.lt
 have hul:=zdA [] 0 t []
 rw[List.length_nil]at hul
 unfold errT
 refine enter Tryz.func169 Tryz.ntmps169 rfl rfl ?_
 refine go trivial ?_
 refine rc (an6 c0 l0 Int.toNat_zero (Nat.zero_mul 2) (zaC (some xa)) gt) (zds w t [] ht) ?_
 rintro _ w1 ⟨rfl,hE1⟩
 obtain⟨⟨l,er⟩,hq⟩:∃x,unD [] 0 t []=x:=⟨_,rfl⟩
 rw[hq]at hul ⊢
 simp only at hul ⊢
 obtain⟨e2,he2⟩:∃e2,(if er=0∧255<l.length then(3:Int) else er)=e2:=⟨_,rfl⟩
 rw[he2]
 refine rgo trivial ?_
 obtain⟨tt,htt⟩:∃tt,decide (er=0∧255<l.length)=tt:=⟨_,rfl⟩
 refine zav (Q:=fun e' σ' ds' v'=>e'= .normal∧ds'=[]∧w1=v'∧σ' 3=vs l∧σ' 4=vi er∧σ' 0= .pointer (some ⟨b,0,Option.none⟩)∧σ' 22= .bool tt) ?_ ?_
 ·by_cases c1:er=0
  ·have d1:decide (er=0)=true:=decide_eq_true c1
   have d2:decide ((255:Int)<(l.length:Int))=tt:=by rw[←htt];exact decide_eq_decide.2 ⟨fun h=>⟨c1,by omega⟩,fun h=>by omega⟩
   refine rgg [(2,18)] (an2 d1 d2) ?_
   exact⟨rfl,rfl,rfl,vr0,vr0,vr0,vr0⟩
  ·have d1:decide (er=0)=false:=decide_eq_false c1
   have d2:tt=false:=by rw[←htt];exact decide_eq_false fun h=>c1 h.1
   subst d2
   refine rgg [(2,18)] d1 ?_
   exact⟨rfl,rfl,rfl,vr0,vr0,vr0,vr0⟩
 rintro _ σ0 _ v0 ⟨rfl,rfl,hv0,r3,r4,r0,r22⟩
 subst hv0
 repeat refine c_r ?_
 refine zav (Q:=fun e' σ' ds' v'=>e'= .normal∧ds'=[]∧w1=v'∧σ' 3=vs l∧σ' 4=vi e2∧σ' 0= .pointer (some ⟨b,0,Option.none⟩)) ?_ ?_
 ·cases tt with
  |true=>
   rw[if_pos (of_decide_eq_true htt)]at he2
   refine go (an4 r3 r4 r0 r22) ?_
   exact⟨rfl,rfl,rfl,(vq1 r3),by rw[←he2];first| (simp only[go_sem];done)| (simp only[go_sem];rfl),(vq1 r0)⟩
  |false=>
   rw[if_neg (of_decide_eq_false htt)]at he2
   refine go (an4 r3 r4 r0 r22) ?_
   exact⟨rfl,rfl,rfl,(vq1 r3),by rw[←he2];exact r4,(vq1 r0)⟩
 clear r3 r4 r0 r22
 rintro _ σ1 _ v1 ⟨rfl,rfl,hv1,s3,s4,s0⟩
 subst hv1
 have hb1:=Ext.at hE1 hb
 have c1:zad w1 (some ⟨b,0,Option.none⟩)=some (.slice (some xa) (ws.length+1) c):=zaa hb1 rfl
 refine go (an3 s3 s4 s0) ?_
 refine rq ?_;intro gd K hgd hK
 try simp (disch:=first|omega|assumption|rfl) only[go_sem,s0,c1,l1,l2]
 refine zaz (P:=Tryz.prog) rfl rfl rfl hb1 (by simp) (by simp) ?_
 intro w2 hs2 hb2 hk2
 try simp only[go_sem]
 refine hK _ _ ?_;clear hK hgd;clear K;try clear gd
 have hR2:Rdr W0 w2 b ws ov e:=⟨Keep.to_ext (h.ext.trans hE1) rfl (fun i hi=>by omega) hk2,h.low,⟨_,hb2,hdr⟩,h.one⟩
 refine go (an3 s3 s4 s0) ?_
 refine rc (an3 s3 s4 s0) (zbL hR2 e2) ?_
 rintro _ w3 ⟨hR3,hk3⟩
 refine rgo s3 ?_
 refine zag (.inr rfl) Tryz.ntmps169 rfl (zac ((vr1 s3)) zae) ?_
 exact⟨rfl,hR3,((hE1.mono fun _ _ h=>h.elim).trans hk2).trans hk3⟩
structure SplP(s:Lab)(ps:List Lab):Prop where
 sp:Lib.splitB ⟨#[46]⟩ 0 (Lib.countB ⟨s.toArray⟩ ⟨#[46]⟩) ⟨s.toArray⟩=ps.map fun l=>⟨l.toArray⟩
 ct:Lib.countB ⟨s.toArray⟩ ⟨#[46]⟩+1=ps.length
theorem zg9{w:World}(hW:WX w){s:Lab}{ps:List Lab}{n:Nat}(hs:s.length<4000000000)(h:SplP s ps)(hn:ps.length=n):
  Fn Tryz.prog 139 #[vs s,vs [46]] w (fun v w'=>v= .slice (some ⟨w.heap.size,0,Option.none⟩) n n∧w'.heap[w.heap.size]? =some (.cells (ps.map vs).toArray 9 (0,0))∧Ext w w'):=by
 obtain⟨m,hm⟩:=hW.ml
 refine Fn.of_calls ((Any.strings_Split Tryz.lays146 (by kernel_rfl) ⟨s.toArray⟩ ⟨#[46]⟩ m w (show s.toArray.size<_ by simp;omega) hm (by decide)).mono ?_)
 rintro _ w' ⟨he,rfl⟩
 subst hn
 rw[h.sp,h.ct,List.map_map]at*
 refine⟨_,he,rfl,?_,Ext.alloc w _⟩
 rw[World.alloc_heap_new]
 rfl
def digs16:Lab:=[48,49,50,51,52,53,54,55,56,57,97,98,99,100,101,102,65,66,67,68,69,70]
theorem zfv(w:World)(s:Lab)(h0:s≠ [])(hs:s.length≤1000000000):Fn Tryz.prog 220 #[vs s] w (fun v w'=>v= .bool (decide (Lib.trimS s digs16=[]))∧Ext w w'):=by
 have hT:Fn Tryz.prog 134 #[vs s,vs digs16] w (fun v w'=>v=vs (Lib.trimS s digs16)∧Ext w w'):=by
  refine Fn.of_calls (Calls.mono (Any.strings_Trim_set Tryz.lays160 (zero_of_info (n:=256) (by kernel_rfl)).1 (by kernel_rfl) ⟨s.toArray⟩ ⟨digs16.toArray⟩ w (by decide) (show 0<s.toArray.size by simpa using List.length_pos_iff.2 h0) (show s.toArray.size≤_ by simp;omega) (by decide) (ascii_of_all (by decide))) ?_)
  rintro _ w' ⟨he,q,rfl⟩
  exact⟨_,he,rfl,((Ext.alloc w _).trans (Ext.alloc _ _)).trans (Ext.drewN _ q)⟩
 refine enter Tryz.func220 Tryz.ntmps220 rfl rfl ?_
 refine go trivial ?_
 refine rc trivial hT ?_
 rintro _ w1 ⟨rfl,hE1⟩
 refine rgo trivial ?_
 refine rt0 Tryz.ntmps220 ?_
 exact⟨rfl,hE1⟩
theorem Keep.own{S T:Nat→Prop}{a b c:World}(h:Keep S a b)(k:Keep T b c)(hT:∀i,i<a.heap.size→T i→S i):Keep S a c:=
 ((h.mono fun _ _ h=>Or.inl h).trans (k.mono fun _ _ h=>Or.inr h):Keep (fun i=>S i∨T i) a c).mono fun i hi h=>h.elim id (hT i hi)
def octP(p:Lab):Value:=zal (UInt8.ofNat (decP 255 p).1)
def zfO(e:Int)(ps:List Lab):Int:=ps.foldl (fun e p=>zaQ e (decP 255 p).2) e
theorem zf0{W0 w:World}{b:Nat}{t:Lab}{q:Bool}{ws:List (Lab×Bool)}{ov:Value}{e:Int}{ps:List Lab}(hW:WX W0)(h:Rdr W0 w b ((t,q)::ws) ov e)(hl:ws.length≤1000000)(ht:t.length≤1000000)(hsp:SplP t ps)(hpl:ps.length≤1000000)(hpx:∀p∈ps,p.length≤1000000):
  Fn Tryz.prog 167 #[.pointer (some ⟨b,0,Option.none⟩)] w (fun v w'=>Own w.heap.size w' 5 v (ps.map octP)∧Rdr W0 w' b ws ov (zfO (if ps.length=4 then(if q=true then zaQ e 2 else e) else zaQ (if q=true then zaQ e 2 else e) 2) ps)∧Keep (fun i=>i=b) w w'):=by
 have hbl:=h.lt
 obtain⟨e1,he1⟩:∃e1,(if q=true then zaQ e 2 else e)=e1:=⟨_,rfl⟩
 refine enter Tryz.func167 Tryz.ntmps167 rfl rfl ?_
 refine go trivial ?_
 refine rc trivial (zcu h hl) ?_
 rw[he1]
 rintro _ w1 ⟨rfl,hR1,hk1⟩
 refine rd trivial (zg9 (n:=ps.length) (hW.ext hR1.ext) (by omega) hsp rfl) ?_
 rintro _ w2 ⟨rfl,hB2,hE2⟩
 have hs1:=hk1.size
 have hs2:=hE2.size
 have hP:w1.heap.size<w2.heap.size:=(Array.getElem?_eq_some_iff.1 hB2).1
 obtain⟨P,hPe⟩:∃P,w1.heap.size=P:=⟨_,rfl⟩
 rw[hPe]at hB2 hP ⊢
 have hk2:Keep (fun i=>i=b) w w2:=hk1.trans (hE2.mono fun _ _ h=>h.elim)
 obtain⟨n,hn⟩:∃n,ps.length=n:=⟨_,rfl⟩
 rw[hn]at hpl ⊢
 obtain⟨tt,htt⟩:∃tt,decide ((n:Int)=4)=tt:=⟨_,rfl⟩
 obtain⟨e2,he2⟩:∃e2,(if n=4 then e1 else zaQ e1 2)=e2:=⟨_,rfl⟩
 rw[he2]
 refine rgo htt ?_
 refine zav (Q:=fun e' σ' ds' v'=>e'= .normal∧ds'=[]∧(σ' 0= .pointer (some ⟨b,0,Option.none⟩)∧σ' 3= .slice (some ⟨P,0,Option.none⟩) n n)∧Rdr W0 v' b ws ov e2∧Keep (fun i=>i=b) w2 v') ?_ ?_
 ·cases tt with
  |true=>
   rw[if_pos (by have:=of_decide_eq_true htt;omega)]at he2
   refine go trivial ?_
   exact⟨rfl,rfl,⟨vr0,vr0⟩,by rw[←he2];exact hR1.extx hE2,Keep.refl _ _⟩
  |false=>
   rw[if_neg (by have:=of_decide_eq_false htt;omega)]at he2
   refine go trivial ?_
   refine rc trivial (zbL (hR1.extx hE2) 2) ?_
   rw[he2]
   rintro _ w3 ⟨hR3,hk3⟩
   refine rgo trivial ?_
   exact⟨rfl,rfl,⟨vr0,vr0⟩,hR3,hk3⟩
 rintro _ σ0 _ w3 ⟨rfl,rfl,⟨s0,s3⟩,hR3,hk3⟩
 refine go (an2 s0 s3) ?_
 refine zbh n (fun i σ v=>(σ 0= .pointer (some ⟨b,0,Option.none⟩)∧σ 17= .slice (some ⟨P,0,Option.none⟩) n n∧σ 18=vi n∧σ 19=vi i)∧Rdr W0 v b ws ov (zfO e2 (ps.take i))∧Keep (fun i=>i=b) w2 v∧∃sv,σ 4=sv∧Own w2.heap.size v 5 sv ((ps.take i).map octP)) ?_ ?_ ?_
 ·exact⟨⟨(vr1 s0),(vr1 s3),(vr1 s3),vr0⟩,hR3,hk3,_,vr0,Own.nil _ _ _⟩
 ·rintro i σ v hi r ⟨⟨s0,s17,s18,s19⟩,hR,hk,sv,s4,hown⟩
  obtain⟨p,hp⟩:∃p,ps[i]'(by omega)=p:=⟨_,rfl⟩
  have hpm:p∈ps:=hp▸List.getElem_mem _
  have hpl':=hpx p hpm
  have hsv:=hk.size
  have hBv:=(hk.block P hP (by omega)).trans hB2
  have g:zad v (some ⟨P,i,Option.none⟩)=some (vs p):=zaJ (j:=i) hBv (by rw[List.getElem?_map,List.getElem?_eq_getElem (by omega),hp];rfl)
  have hi0:(0:Int)≤(i:Int):=by omega
  have hi1:(i:Int)<(n:Int):=by omega
  have hi2:(i:Int)+1=((i+1:Nat):Int):=by push_cast;rfl
  refine go (an9 s0 s17 s18 s19 s4 r g hi0 (an3 hi1 (Nat.mul_one i) (Nat.zero_add i))) ?_
  refine rc (an3 s0 s4 hi0) (zcH (hW.ext hR.ext) p 255 (by omega) (by omega)) ?_
  rintro _ v1 ⟨rfl,hE1⟩
  refine rgo (an3 s0 s4 hi0) ?_
  refine rc (an3 s0 s4 hi0) (zbL (hR.extx hE1) (decP 255 p).2) ?_
  rintro _ v2 ⟨hR2,hk2'⟩
  have hdl:=zeQ 255 p
  obtain⟨x,hx⟩:∃x,(decP 255 p).1=x:=⟨_,rfl⟩
  rw[hx]at hdl
  have hox:octP p= .int .u8 (x:Int):=by unfold octP;rw[hx,zbg (by omega)]
  have hsE:=hE1.size
  have hsk:=hk2'.size
  refine rgo (an3 s0 s4 hx) ?_
  refine rq ?_;intro gd K hgd hK
  try simp (disch:=first|omega|assumption|rfl) only[go_sem,s4,hx]
  refine zaK (z:= .int .u8 0) rfl rfl rfl rfl rfl ?_
  intro y1 hy1 hys1 hyo
  try simp (disch:=first|omega|assumption|rfl) only[go_sem,s4]
  have hb2:b<w2.heap.size:=by omega
  refine zaG (e:=5) (((hown.ext hE1).keep hk2' fun j hj hs=>by have:=(hown.ge hj).1;omega).ext hy1) hyo.row rfl rfl rfl rfl rfl rfl ((vr1 s4)) (vr0) (fun q hq=>by rw[List.mem_singleton.1 hq];rfl) (by simp;omega) (by decide) (by omega) ?_
  intro sv' y2 hown2 hX2 hK2 hb2'
  try simp only[go_sem]
  refine hK _ _ ?_;clear hK hgd;clear K;try clear gd
  refine go (an5 s0 s17 s18 s19 hi2) ?_
  have hkx:Keep (fun i=>i=b) w2 y1:=((hk.trans (hE1.mono fun _ _ h=>h.elim)).trans hk2').trans (hy1.mono fun _ _ h=>h.elim)
  refine⟨rfl,⟨(vq1 s0),(vq1 s17),(vq1 s18),(vq1 hi2)⟩,?_,hkx.own hK2 fun j hj h=>by have:=(hown.ge h).1;omega,sv',vr0,?_⟩
  ·rw[zak (by omega),hp]
   unfold zfO at hR2 ⊢
   rw[List.foldl_append]
   exact(hR2.extx hy1).keep hK2 fun j hj=>by have:=(hown.ge hj).1;have:=h.low;omega
  ·rw[zak (by omega),hp,List.map_append,List.map_cons,List.map_nil,hox]
   exact hown2
 ·rintro σ v r ⟨⟨s0,s17,s18,s19⟩,hR,hk,sv,s4,hown⟩
  rw[←hn,List.take_length]at hR hown
  refine go (an6 s0 s17 s18 s19 s4 r) ?_
  refine zag (.inr rfl) Tryz.ntmps167 rfl (zac ((vr1 s4)) zae) ?_
  exact⟨hown.mono (by omega),hR,hk2.trans hk⟩
def hexV(c:UInt8):Option Nat:=if 48≤c.toNat∧c.toNat≤57 then some (c.toNat - 48) else if 97≤c.toNat∧c.toNat≤102 then some (c.toNat - 87) else if 65≤c.toNat∧c.toNat≤70 then some (c.toNat - 55) else Option.none
theorem zeK{c:UInt8}{x:Nat}(h:hexV c=some x):x<16:=by
 unfold hexV at h
 split at h
 ·simp only[Option.some.injEq]at h;omega
 ·split at h
  ·simp only[Option.some.injEq]at h;omega
  ·split at h
   ·simp only[Option.some.injEq]at h;omega
   ·cases h
theorem or32:∀n:Nat,n<128→(97≤n∧n≤102∨65≤n∧n≤70)→IntKind.u8.wrap ((BitVec.ofInt IntKind.u8.bits (n:Int)|||BitVec.ofInt IntKind.u8.bits 32).toNat:Int)=if 97≤n then(n:Int) else(n:Int)+32:=by decide+kernel
theorem lower_ok(w:World)(c:UInt8)(h:(97≤c.toNat∧c.toNat≤102)∨(65≤c.toNat∧c.toNat≤70)):Fn Tryz.prog 247 #[zal c] w (fun v w'=>v= .int .u8 (if 97≤c.toNat then(c.toNat:Int) else(c.toNat:Int)+32)∧w=w'):=by
 have ho:=or32 c.toNat (by omega) h
 have hbv:zal c= .int .u8 (c.toNat:Int):=rfl
 have hor:binV Tryz.prog .or 5 (.int .u8 (c.toNat:Int)) (.int .u8 32)=some (.int .u8 (if 97≤c.toNat then(c.toNat:Int) else(c.toNat:Int)+32)):=by rw[←ho];rfl
 refine enter Tryz.func247 Tryz.ntmps247 rfl rfl ?_
 refine go (an2 hbv hor) ?_
 refine rt0 Tryz.ntmps247 ?_
 exact⟨rfl,rfl⟩
def hexN(x y:Nat)(n:Nat):Nat:=if n=0 then 0 else if n=1 then x else 16*x+y
theorem Pu16i_ok(w:World){a c:UInt8}{x y:Nat}(ha:hexV a=some x)(hc:hexV c=some y):Fn Tryz.prog 206 #[vs [a,c],vi 16,vi 8] w (fun v w'=>v= .tuple #[.int .u64 ((16*x+y:Nat):Int),.nilIface]∧Ext w w'):=by
 have hx:=zeK ha
 have hy:=zeK hc
 have d1:decide ([a,c]=[])=false:=rfl
 refine enter Tryz.func206 Tryz.ntmps206 rfl rfl ?_
 have l1:decide ((2:Int)≤16)=true:=rfl
 have l2:decide ((16:Int)≤36)=true:=rfl
 have l3:decide ((8:Int)=0)=false:=rfl
 have l4:decide ((8:Int)<0)=false:=rfl
 have l5:decide ((64:Int)<8)=false:=rfl
 have l6:decide ((16:Int)=10)=false:=rfl
 have l7:decide ((16:Int)=16)=true:=rfl
 have l8:decide ((16:Int)=0)=false:=rfl
 refine go (an2 d1 l8) ?_
 refine rgg [(2,28)] (an2 l1 l2) ?_
 refine go l3 ?_
 refine rgg [(2,80)] (an2 l4 l5) ?_
 have hsh:binV Tryz.prog .shl 114 (.int .u64 1) (.int .u64 8)=some (.int .u64 256):=rfl
 have hsb:(256:Int) - 1=255:=rfl
 refine go (an4 l6 l7 hsh hsb) ?_
 refine rq ?_;intro gd K hgd hK
 try simp only[go_sem]
 refine zd1 rfl rfl rfl (vr0) ?_
 intro cp cur w2 hlc hcs hct hE2 hs2 hb2
 try simp only[go_sem]
 refine hK _ _ ?_;clear hK hgd;clear K;try clear gd
 have hgx:∀i (h:i< [a,c].length),zad w2 (some ⟨w.heap.size,i,Option.none⟩)=some (zal [a,c][i]):=fun i hi=>by
  refine zaa hb2 ?_
  have:(cur.toList.take [a,c].length)[i]? =some (zal [a,c][i]):=by rw[hct,List.getElem?_map,List.getElem?_eq_getElem hi];rfl
  rw[List.getElem?_take,if_pos hi]at this
  simpa using this
 refine go trivial ?_
 refine zbh 2 (fun i σ v=>(σ 1=vi 16∧σ 8= .bool false∧σ 10= .int .u64 1152921504606846976∧σ 11= .int .u64 255∧σ 12= .bool false∧σ 13= .int .u64 (hexN x y i:Nat)∧σ 99= .slice (some ⟨w.heap.size,0,Option.none⟩) 2 cp∧σ 100=vi 2∧σ 101=vi i)∧v=w2) ?_ ?_ ?_
 ·exact⟨⟨vr0,vr0,vr0,vr0,vr0,vr0,vr0,vr0,vr0⟩,rfl⟩
 ·rintro i σ v hi r ⟨⟨s1,s8,s10,s11,s12,s13,s99,s100,s101⟩,rfl⟩
  obtain⟨k,d,n,hg,hkd,hn,hn15,hn1⟩:∃(k:UInt8) (d n:Nat),zad v (some ⟨w.heap.size,i,Option.none⟩)=some (zal k)∧hexV k=some d∧hexN x y i=n∧n≤15∧hexN x y (i+1)=16*n+d:=by
   have h01:i=0∨i=1:=by omega
   rcases h01 with rfl|rfl
   ·exact⟨a,x,0,hgx 0 (by simp),ha,rfl,by omega,by unfold hexN;simp⟩
   ·exact⟨c,y,x,hgx 1 (by simp),hc,rfl,by omega,rfl⟩
  have hd:=zeK hkd
  rw[hn]at s13
  have hbv:zal k= .int .u8 (k.toNat:Int):=rfl
  have hi0:(0:Int)≤(i:Int):=by omega
  have hi1:(i:Int)<2:=by omega
  have hi2:(i:Int)+1=((i+1:Nat):Int):=by push_cast;rfl
  have hk48:48≤k.toNat∧k.toNat≤102∧k.toNat≠95∧((k.toNat≤57∧d=k.toNat - 48)∨(97≤k.toNat∧d=k.toNat - 87)∨(65≤k.toNat∧k.toNat≤70∧d=k.toNat - 55)):=by
   unfold hexV at hkd
   split at hkd
   ·simp only[Option.some.injEq]at hkd;omega
   ·split at hkd
    ·simp only[Option.some.injEq]at hkd;omega
    ·split at hkd
     ·simp only[Option.some.injEq]at hkd;omega
     ·cases hkd
  have k95:decide ((k.toNat:Int)=95)=false:=decide_eq_false (by omega)
  have k48:decide ((48:Int)≤(k.toNat:Int))=true:=decide_eq_true (by omega)
  refine go (an9 s1 s8 s10 s11 s12 s13 s99 s100 (an8 s101 r hg hbv hi0 hi1 (Nat.mul_one i) (Nat.zero_add i))) ?_
  obtain⟨A,hA⟩:∃A,16*n=A:=⟨_,rfl⟩
  obtain⟨B,hB⟩:∃B,16*n+d=B:=⟨_,rfl⟩
  have f1:decide ((16:Int)≤(d:Int))=false:=decide_eq_false (by omega)
  have f2:decide ((1152921504606846976:Int)≤(n:Int))=false:=decide_eq_false (by omega)
  have f3:(n:Int)*16=(A:Int):=by omega
  have f4:(A:Int)+(d:Int)=(B:Int):=by omega
  have f5:decide ((B:Int)<(A:Int))=false:=decide_eq_false (by omega)
  have f6:decide ((255:Int)<(B:Int))=false:=decide_eq_false (by omega)
  refine rgg [(2,109)] k95 ?_
  refine go trivial ?_
  by_cases c57:k.toNat≤57
  ·have k57:decide ((k.toNat:Int)≤57)=true:=decide_eq_true (by omega)
   have f0:(k.toNat:Int) - 48=(d:Int):=by omega
   refine rgg [(2,115)] (an2 k48 k57) ?_
   refine go (an9 s1 s8 s10 s11 s12 s13 s99 s100 (an6 s101 f0 f1 f2 f3 f4)) ?_
   refine rgg [(3,155)] (an5 f5 f6 f3 f4 s11) ?_
   refine go (an9 s1 s8 s10 s11 s12 s99 s100 s101 hi2) ?_
   exact⟨rfl,⟨(vq1 s1),(vq1 s8),(vq1 s10),(vq1 s11),(vq1 s12),by rw[hn1,hB];first| (simp only[go_sem];done)| (simp only[go_sem];rfl),(vq1 s99),(vq1 s100),(vq1 hi2)⟩,rfl⟩
  ·have k57:decide ((k.toNat:Int)≤57)=false:=decide_eq_false (by omega)
   have hlc:(97≤k.toNat∧k.toNat≤102)∨(65≤k.toNat∧k.toNat≤70):=by omega
   have hlo:=lower_ok v k hlc
   obtain⟨L,hL⟩:∃L:Int,(if 97≤k.toNat then(k.toNat:Int) else(k.toNat:Int)+32)=L:=⟨_,rfl⟩
   have hLb:97≤L∧L≤102∧L - 97+10=(d:Int):=by rw[←hL];split<;>omega
   rw[hL]at hlo
   have g1:decide ((97:Int)≤L)=true:=decide_eq_true hLb.1
   have g2:decide (L≤122)=true:=decide_eq_true (by omega)
   have f0:=hLb.2.2
   refine rgg [(2,115)] (an2 k48 k57) ?_
   refine go trivial ?_
   refine rcg [(3,125)] trivial hlo ?_
   rintro _ z1 ⟨rfl,hz1⟩
   subst hz1
   refine rdg [(3,125)] g1 hlo ?_
   rintro _ z1 ⟨rfl,hz1⟩
   subst hz1
   refine reg [(3,125)] g2 ?_
   refine go trivial ?_
   refine rc trivial hlo ?_
   rintro _ z1 ⟨rfl,hz1⟩
   subst hz1
   refine rgo (an9 s1 s8 s10 s11 s12 s13 s99 s100 (an6 s101 f0 f1 f2 f3 f4)) ?_
   refine rgg [(3,155)] (an5 f5 f6 f3 f4 s11) ?_
   refine go (an9 s1 s8 s10 s11 s12 s99 s100 s101 hi2) ?_
   exact⟨rfl,⟨(vq1 s1),(vq1 s8),(vq1 s10),(vq1 s11),(vq1 s12),by rw[hn1,hB];first| (simp only[go_sem];done)| (simp only[go_sem];rfl),(vq1 s99),(vq1 s100),(vq1 hi2)⟩,rfl⟩
 ·rintro σ v r ⟨⟨s1,s8,s10,s11,s12,s13,s99,s100,s101⟩,rfl⟩
  refine go (an7 s8 s12 s13 s99 s100 s101 r) ?_
  refine rgg [(1,165)] (an2 s12 s13) ?_
  refine go (an2 s12 s13) ?_
  refine zag (.inr rfl) Tryz.ntmps206 rfl (zac ((vr1 s13)) (zac (vr0) zae)) ?_
  exact⟨rfl,hE2⟩
theorem Pu16_ok(w:World){a c:UInt8}{x y:Nat}(ha:hexV a=some x)(hc:hexV c=some y):Fn Tryz.prog 135 #[vs [a,c],vi 16,vi 8] w (fun v w'=>v= .tuple #[.int .u64 ((16*x+y:Nat):Int),.nilIface]∧Ext w w'):=by
 refine enter Tryz.func135 Tryz.ntmps135 rfl rfl ?_
 refine go trivial ?_
 refine rc trivial (Pu16i_ok w ha hc) ?_
 rintro _ w1 ⟨rfl,hE1⟩
 refine rgo trivial ?_
 refine rq ?_;intro gd K hgd hK
 try simp only[go_sem]
 rw[show binV Tryz.prog .neq 108 .nilIface .nilIface=Option.none from rfl,zck]
 refine zdS (u:= .nilIface) (b:=false) (by kernel_rfl) (.inl ⟨rfl,rfl⟩) (vr0) rfl ?_
 try simp only[go_sem]
 refine hK _ _ ?_;clear hK hgd;clear K;try clear gd
 refine go trivial ?_
 refine zag (.inr rfl) Tryz.ntmps135 rfl (zac (vr0) (zac (vr0) zae)) ?_
 exact⟨rfl,hE1⟩
def catW(ws:List (Lab×Bool)):Lab:=ws.flatMap (·.1)
theorem zfm{ws:List (Lab×Bool)}(h:∀x∈ws,x.1.length≤1000000):(catW ws).length≤1000000*ws.length:=by
 induction ws with
 |nil=>exact Nat.zero_le _
 |cons x l ih=>
  have h1:=h x (List.mem_cons_self ..)
  have h2:=ih fun y hy=>h y (List.mem_cons_of_mem _ hy)
  unfold catW at*
  rw[List.flatMap_cons,List.length_append,List.length_cons]
  omega
def Pairs(s:Lab)(bs:List UInt8):Prop:=s.length=2*bs.length∧∀i (h:i<bs.length) (h1:2*i<s.length) (h2:2*i+1<s.length),∃x y,hexV s[2*i]=some x∧hexV s[2*i+1]=some y∧bs[i].toNat=16*x+y
theorem zfA{W0 w:World}{b:Nat}{t:Lab}{ws:List (Lab×Bool)}{ov:Value}{n:Nat}{bs:List UInt8}(hW:WX W0)(h:Rdr W0 w b ((t,false)::ws) ov 0)(hl:ws.length≤1000)(ht:t.length≤1000000)(hn:decP 4294967295 t=(n,0))(hn2:n≤1024)(hwq:∀x∈ws,x.2=false∧x.1.length≤1000000)(hs0:catW ws≠ [])(htr:Lib.trimS (catW ws) digs16=[])(hlen:(catW ws).length=2*n)(hp:Pairs (catW ws) bs):
  Fn Tryz.prog 165 #[.pointer (some ⟨b,0,Option.none⟩)] w (fun v w'=>Own w.heap.size w' 5 v (bs.map zal)∧Rdr W0 w' b [] ov 0∧Keep (fun i=>i=b) w w'):=by
 have hbl:=h.lt
 have hcl:=zfm fun x hx=>(hwq x hx).2
 have hml:1000000*ws.length≤1000000*1000:=Nat.mul_le_mul_left _ hl
 refine enter Tryz.func165 Tryz.ntmps165 rfl rfl ?_
 refine go trivial ?_
 refine rc trivial (zcu h (by omega)) ?_
 rintro _ w1 ⟨rfl,hR1,hk1⟩
 refine rd trivial (zcH (hW.ext hR1.ext) t 4294967295 (by omega) (by omega)) ?_
 rintro _ w2 ⟨rfl,hE2⟩
 rw[hn]
 simp only[if_neg (show¬false=true by decide)]at hR1
 refine rgo trivial ?_
 refine rc trivial (zbL (hR1.extx hE2) 0) ?_
 rintro _ w3 ⟨hR3,hk3⟩
 rw[show zaQ 0 0=0 from rfl]at hR3
 have d1:decide ((1024:Int)<(n:Int))=false:=decide_eq_false (by omega)
 refine rgo d1 ?_
 have hk03:Keep (fun i=>i=b) w w3:=(hk1.trans (hE2.mono fun _ _ h=>h.elim)).trans hk3
 have ez:decide ((0:Int)=0)=true:=rfl
 refine zav (Q:=fun e' σ' ds' v'=>e'= .exit 0∧ds'=[]∧(σ' 0= .pointer (some ⟨b,0,Option.none⟩)∧σ' 3= .int .u64 n∧σ' 5=vs (catW ws))∧Rdr W0 v' b [] ov 0∧Keep (fun i=>i=b) w v') ?_ ?_
 ·refine zaF (fun m σ ds v=>ds=[]∧∃i,i+m=ws.length∧(σ 0= .pointer (some ⟨b,0,Option.none⟩)∧σ 3= .int .u64 n∧σ 5=vs (catW (ws.take i)))∧Rdr W0 v b (ws.drop i) ov 0∧Keep (fun i=>i=b) w v) ws.length ?_ ?_
  ·exact⟨rfl,0,by omega,⟨vr0,vr0,vr0⟩,hR3,hk03⟩
  rintro m σ ds v ⟨rfl,i,him,⟨s0,s3,s5⟩,hR,hk⟩
  obtain⟨wv,hb,hr⟩:=hR.at'
  obtain⟨aw,cw,rfl,_,_⟩:=hr.open
  have c0:zad v (some ⟨b,0,Option.none⟩)=some (.slice aw (ws.drop i).length cw):=zaa hb rfl
  have c2:zad v (some ⟨b,2,Option.none⟩)=some (vi 0):=zaa hb rfl
  by_cases hi:i<ws.length
  ·have d2:decide ((0:Int)<((ws.drop i).length:Int))=true:=decide_eq_true (by rw[List.length_drop];omega)
   rw[List.drop_eq_getElem_cons hi]at hR
   obtain⟨⟨u,q⟩,hu⟩:∃x,ws[i]=x:=⟨_,rfl⟩
   have hum:(u,q)∈ws:=hu▸List.getElem_mem hi
   obtain⟨hq,hul⟩:=hwq _ hum
   simp only at hq hul
   subst hq
   rw[hu]at hR
   refine go (an3 s0 s3 s5) ?_
   refine rgg [(6,29)] (an8 s0 s3 s5 c0 c2 d2 ez (Nat.zero_add 2)) ?_
   refine go (an3 s0 s3 s5) ?_
   refine rc (an3 s0 s3 s5) (zcu hR (by rw[List.length_drop];omega)) ?_
   rintro _ v1 ⟨rfl,hR1',hk1'⟩
   simp only[if_neg (show¬false=true by decide)]at hR1'
   have hct:catW (ws.take (i+1))=catW (ws.take i)++u:=by rw[zak hi,hu];unfold catW;simp
   have hcl1:=zfm (ws:=ws.take i) fun x hx=>(hwq x (List.mem_of_mem_take hx)).2
   rw[List.length_take]at hcl1
   have hml1:1000000*min i ws.length≤1000000*1000:=Nat.mul_le_mul_left _ (by omega)
   have l1:(catW (ws.take i)).length+u.length≤9223372036854775807:=by omega
   refine rgo (an4 s0 s3 s5 l1) ?_
   exact⟨m - 1,by omega,rfl,i+1,by omega,⟨(vq1 s0),(vq1 s3),by rw[hct];first| (simp only[go_sem,s5];done)| (simp only[go_sem,s5];rfl)⟩,hR1',hk.trans hk1'⟩
  ·have d2:decide ((0:Int)<((ws.drop i).length:Int))=false:=decide_eq_false (by rw[List.length_drop];omega)
   refine go (an3 s0 s3 s5) ?_
   refine rgg [(6,29)] (an7 s0 s3 s5 c0 c2 d2 (Nat.zero_add 2)) ?_
   refine go (an3 s0 s3 s5) ?_
   rw[List.drop_of_length_le (by omega)]at hR
   rw[List.take_of_length_le (by omega)]at s5
   exact⟨rfl,rfl,⟨(vq1 s0),(vq1 s3),(vq1 s5)⟩,hR,hk⟩
 rintro _ σ0 _ w4 ⟨rfl,rfl,⟨s0,s3,s5⟩,hR4,hk4⟩
 obtain⟨s,hs⟩:∃s,catW ws=s:=⟨_,rfl⟩
 rw[hs]at hs0 htr hlen hp hcl s5
 obtain⟨hpl,hpx⟩:=hp
 refine go (an3 s0 s3 s5) ?_
 refine rcg [(3,43)] (an3 s0 s3 s5) (zfv w4 s hs0 (by omega)) ?_
 rintro _ w5 ⟨rfl,hE5⟩
 rw[decide_eq_true htr]
 have f1:(2:Int)*(n:Int)=((2*n:Nat):Int):=by omega
 have d3:decide (((s.length:Nat):Int)=((2*n:Nat):Int))=true:=decide_eq_true (by omega)
 have hR5:=hR4.extx hE5
 obtain⟨wv5,hb5,_⟩:=hR5.at'
 have c5:zad w5 (some ⟨b,2,Option.none⟩)=some (vi 0):=zaa hb5 rfl
 refine reg [(3,43)] (an5 s0 s3 s5 f1 d3) ?_
 refine go (an6 s0 s3 s5 c5 ez (Nat.zero_add 2)) ?_
 have hk5:Keep (fun i=>i=b) w w5:=hk4.trans (hE5.mono fun _ _ h=>h.elim)
 have hsz5:=hk5.size
 refine zaF (fun m σ ds v=>ds=[]∧∃j,j+m=bs.length∧(σ 5=vs s∧σ 7=vi ((2*j:Nat):Int))∧Ext w5 v∧∃sv,σ 6=sv∧Own w5.heap.size v 5 sv ((bs.take j).map zal)) bs.length ?_ ?_
 ·exact⟨rfl,0,by omega,⟨(vr1 s5),vr0⟩,Keep.refl _ _,_,vr0,Own.nil _ _ _⟩
 rintro m σ ds v ⟨rfl,j,hjm,⟨r5,r7⟩,hEv,sv,r6,hown⟩
 obtain⟨I,hI⟩:∃I,2*j=I:=⟨_,rfl⟩
 rw[hI]at r7
 by_cases hj:j<bs.length
 ·have d4:decide ((I:Int)<(s.length:Int))=true:=decide_eq_true (by omega)
  have i1:I<s.length:=by omega
  have i2:I+1<s.length:=by omega
  obtain⟨x,y,hx,hy,hxy⟩:=hpx j hj (by omega) (by omega)
  simp only[hI]at hx hy
  have hI2:(I:Int)+2=((I+2:Nat):Int):=by push_cast;rfl
  have z0:(0:Int)≤(I:Int):=by omega
  have z1:(I:Int)≤((I+2:Nat):Int):=by omega
  have z2:((I+2:Nat):Int)≤(s.length:Int):=by omega
  have hsl:List.take (I+2 - I) (List.drop I s)=[s[I],s[I+1]]:=by
   rw[show I+2 - I=2 by omega,List.drop_eq_getElem_cons i1,List.drop_eq_getElem_cons i2]
   rfl
  refine go (an4 r5 r7 r6 d4) ?_
  refine rc (an8 r5 r7 r6 hI2 z0 z1 z2 hsl) (Pu16_ok v hx hy) ?_
  rintro _ v1 ⟨rfl,hE1⟩
  have hbl2:=bs[j].toNat_lt
  rw[←hxy]
  obtain⟨c,hc⟩:∃c,bs[j]=c:=⟨_,rfl⟩
  rw[hc]at hbl2 ⊢
  have hbv:zal c= .int .u8 (c.toNat:Int):=rfl
  have hsv:=hEv.size
  have hsv1:=hE1.size
  refine rgo (an3 r5 r7 r6) ?_
  refine rq ?_;intro gd K hgd hK
  try simp (disch:=first|omega|assumption|rfl) only[go_sem,r6]
  refine zaK (z:= .int .u8 0) rfl rfl rfl rfl rfl ?_
  intro y1 hy1 hys1 hyo
  try simp (disch:=first|omega|assumption|rfl) only[go_sem,r6]
  refine zaG (e:=5) ((hown.ext hE1).ext hy1) hyo.row rfl rfl rfl rfl rfl rfl ((vr1 r6)) (vr0) (fun q hq=>by rw[List.mem_singleton.1 hq];rfl) (by simp;omega) (by decide) (by omega) ?_
  intro sv' y2 hown2 hX2 hK2 hb2'
  try simp only[go_sem]
  refine hK _ _ ?_;clear hK hgd;clear K;try clear gd
  refine go (an3 r5 r7 hI2) ?_
  refine⟨m - 1,by omega,rfl,j+1,by omega,⟨(vq1 r5),by rw[show 2*(j+1)=I+2 by omega];simp only[go_sem,hI2]⟩,hX2 w5 ((hEv.trans hE1).trans hy1) (Nat.le_refl _),sv',vr0,?_⟩
  rw[zak hj,hc,List.map_append,List.map_cons,List.map_nil,hbv]
  exact hown2
 ·have d4:decide ((I:Int)<(s.length:Int))=false:=decide_eq_false (by omega)
  refine go (an4 r5 r7 r6 d4) ?_
  rw[List.take_of_length_le (by omega)]at hown
  refine zag (.inr rfl) Tryz.ntmps165 rfl (zac ((vr1 r6)) zae) ?_
  exact⟨hown.mono hsz5,hR5.extx hEv,hk5.trans (hEv.mono fun _ _ h=>h.elim)⟩
end Go.Proofs.YtanmnkbccfcagaaGreatDoor
