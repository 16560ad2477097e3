/-
  Texts of a proof, joined: JB, JC, JD, B5, B6, HP, JE, JG, LA, K29, K37, LB, K39, LC, LE, JH, JI.
  Conditions: none.
-/
import Derived.Test.YtkpdfhbpdkifoaaGreatDoorQPB05
import Derived.Test.YtkpdfhbpdkifoaaGreatDoorQPB04
import Derived.Test.YtkpdfhbpdkifoaaGreatDoorQPB02
import Derived.Test.YtkpdfhbpdkifoaaGreatDoorQPB03
set_option linter.unusedVariables false
set_option linter.unusedSimpArgs false
set_option linter.defProp false
set_option linter.unnecessarySimpa false
set_option maxHeartbeats 8000000
namespace Go.Proofs.YtkpdfhbpdkifoaaGreatDoor
open Go
set_option maxRecDepth 10000
theorem dig_stop{s:Lab}{n:Nat}(h:∀j (hj:j<s.length),j<n→digB s[j]=true)(hn:n≤s.length)(h3:n≤3)(he:n<3→∀hj:n<s.length,digB s[n]=false):digN s=n:=by
 have e:s.take 3=s.take n++(s.drop n).take (3 - n):=by
  rw[←List.take_add];congr 1;omega
 unfold digN
 rw[e,List.takeWhile_append_of_pos (fun c hc=>?_),List.length_append,List.length_take]
 ·have:((s.drop n).take (3 - n)).takeWhile digB=[]:=by
   by_cases h4:n<3
   ·by_cases h5:n<s.length
    ·rw[List.drop_eq_getElem_cons h5,show 3 - n=(3 - n - 1)+1 by omega,List.take_succ_cons,List.takeWhile_cons_of_neg (by rw[he h4 h5];decide)]
    ·rw[List.drop_of_length_le (by omega)];simp
   ·rw[show 3 - n=0 by omega];rfl
  rw[this];simp;omega
 ·obtain⟨j,hj,rfl⟩:=List.mem_iff_getElem.1 hc
  rw[List.length_take]at hj
  rw[List.getElem_take]
  exact h j (by omega) (by omega)
def ziy(s:Lab)(n:Nat):Bool:=match s[n]? with
 |some c=>decide (n<3) && digB c
 |Option.none=>false
theorem zmW(w:World)(s:Lab)(hl:s.length≤1000000000):Fn Tryz.prog 265 #[vs s] w (fun v w'=>v=vi (digN s)∧w=w'):=by
 refine enter Tryz.func265 Tryz.ntmps265 rfl rfl ?_
 refine go trivial ?_
 refine zaD (fun m σ ds v=>ds=[]∧∃n,n+m=3∧n≤s.length∧σ 0=vs s∧σ 3=vi n∧w=v∧∀j (hj:j<s.length),j<n→digB s[j]=true) 3 ?_ ?_
 ·exact⟨rfl,0,by omega,Nat.zero_le _,vr0,vr0,rfl,fun j _ h=>by omega⟩
 rintro m σ ds v ⟨rfl,n,hnm,hnl,s0,s3,rfl,hall⟩
 have hmin:min (s.length:Int) 3=((min s.length 3:Nat):Int):=by omega
 refine go (an2 s0 s3) ?_
 refine zas (Q:=fun e σ' ds' v'=>e= .normal∧ds'=[]∧w=v'∧σ' 0=vs s∧σ' 3=vi n∧σ' 20= .bool (ziy s n)) ?_ ?_
 ·by_cases c1:n<min s.length 3
  ·have hi:n<s.length:=by omega
   have d1:decide ((n:Int)<((min s.length 3:Nat):Int))=true:=decide_eq_true (by omega)
   have z0:(0:Int)≤(n:Int):=by omega
   have zi:((n:Int)).toNat<s.length:=by omega
   have hct:ziy s n=digB s[n]:=by unfold ziy;rw[List.getElem?_eq_getElem hi];simp only;rw[decide_eq_true (by omega),Bool.true_and]
   obtain⟨c,hc⟩:∃c,s[n]=c:=⟨_,rfl⟩
   have hcx:s[((n:Int)).toNat]'zi=c:=hc
   rw[hct,hc]
   unfold digB
   by_cases c2:48≤c.toNat
   ·have d2:decide ((48:Int)≤(c.toNat:Int))=true:=decide_eq_true (by omega)
    obtain⟨t,ht⟩:∃t,decide ((c.toNat:Int)≤57)=t:=⟨_,rfl⟩
    rw[show (decide (48≤c.toNat) && decide (c.toNat≤57))=t by rw[decide_eq_true c2,Bool.true_and,←ht];exact decide_eq_decide.2 (by omega)]
    refine rq ?_;intro gd K hgd hK
    have hg5:∀n σ b,zaE gd n σ (some (5,b))=zap (ev n σ (.tmp 9)) b:=(fun n σ b=>by rw[zag,show gd 5=some 9 from(by rw[hgd];rfl)];rfl);have hg11:∀n σ b,zaE gd n σ (some (11,b))=zap (ev n σ (.tmp 15)) b:=(fun n σ b=>by rw[zag,show gd 11=some 15 from(by rw[hgd];rfl)];rfl)
    try simp (disch:=first|omega|assumption|rfl) only[go_sem,s0,s3,↓hg5,↓hg11]
    refine zfN (vr0) (vr0) ?_
    rw[hmin]
    try simp (disch:=first|omega|assumption|rfl) only[go_sem,s0,s3,d1,z0,zi,hc,d2,ht,↓hg5,↓hg11]
    refine hK _ _ ?_;clear hK hgd;clear K;try clear gd
    exact⟨rfl,rfl,rfl,(vq1 s0),(vq1 s3),vr0⟩
   ·have d2:decide ((48:Int)≤(c.toNat:Int))=false:=decide_eq_false (by omega)
    rw[decide_eq_false c2,Bool.false_and]
    refine rq ?_;intro gd K hgd hK
    have hg5:∀n σ b,zaE gd n σ (some (5,b))=zap (ev n σ (.tmp 9)) b:=(fun n σ b=>by rw[zag,show gd 5=some 9 from(by rw[hgd];rfl)];rfl);have hg11:∀n σ b,zaE gd n σ (some (11,b))=zap (ev n σ (.tmp 15)) b:=(fun n σ b=>by rw[zag,show gd 11=some 15 from(by rw[hgd];rfl)];rfl)
    try simp (disch:=first|omega|assumption|rfl) only[go_sem,s0,s3,↓hg5,↓hg11]
    refine zfN (vr0) (vr0) ?_
    rw[hmin]
    try simp (disch:=first|omega|assumption|rfl) only[go_sem,s0,s3,d1,z0,zi,hc,d2,↓hg5,↓hg11]
    refine hK _ _ ?_;clear hK hgd;clear K;try clear gd
    exact⟨rfl,rfl,rfl,(vq1 s0),(vq1 s3),vr0⟩
  ·have d1:decide ((n:Int)<((min s.length 3:Nat):Int))=false:=decide_eq_false (by omega)
   have hct:ziy s n=false:=by
    unfold ziy
    split
    ·rename_i c hc
     have:=(List.getElem?_eq_some_iff.1 hc).1
     rw[decide_eq_false (by omega),Bool.false_and]
    ·rfl
   rw[hct]
   refine rq ?_;intro gd K hgd hK
   have hg5:∀n σ b,zaE gd n σ (some (5,b))=zap (ev n σ (.tmp 9)) b:=(fun n σ b=>by rw[zag,show gd 5=some 9 from(by rw[hgd];rfl)];rfl);have hg11:∀n σ b,zaE gd n σ (some (11,b))=zap (ev n σ (.tmp 15)) b:=(fun n σ b=>by rw[zag,show gd 11=some 15 from(by rw[hgd];rfl)];rfl)
   try simp (disch:=first|omega|assumption|rfl) only[go_sem,s0,s3,↓hg5,↓hg11]
   refine zfN (vr0) (vr0) ?_
   rw[hmin]
   try simp (disch:=first|omega|assumption|rfl) only[go_sem,s0,s3,d1,↓hg5,↓hg11]
   refine hK _ _ ?_;clear hK hgd;clear K;try clear gd
   exact⟨rfl,rfl,rfl,(vq1 s0),(vq1 s3),vr0⟩
 rintro _ σ1 _ v1 ⟨rfl,rfl,hv1,g0,g3,g20⟩
 subst hv1
 have hi2:(n:Int)+1=((n+1:Nat):Int):=by push_cast;rfl
 cases hc:ziy s n with
 |true=>
  rw[hc]at g20
  unfold ziy at hc
  split at hc
  ·rename_i c hcc
   simp only[Bool.and_eq_true,decide_eq_true_eq]at hc
   obtain⟨hi,hce⟩:=List.getElem?_eq_some_iff.1 hcc
   refine go (an4 g0 g3 g20 hi2) ?_
   refine⟨m - 1,by omega,rfl,n+1,by omega,by omega,(vq1 g0),(vq1 hi2),rfl,fun j hj hjn=>?_⟩
   by_cases e:j=n
   ·subst e;rw[hce];exact hc.2
   ·exact hall j hj (by omega)
  ·cases hc
 |false=>
  rw[hc]at g20
  refine go (an3 g0 g3 g20) ?_
  refine rt0 Tryz.ntmps265 ?_
  refine⟨?_,rfl⟩
  rw[dig_stop hall hnl (by omega) (fun h3 hj=>by
   unfold ziy at hc
   rw[List.getElem?_eq_getElem hj]at hc
   simp only at hc
   rwa [decide_eq_true h3,Bool.true_and]at hc)]
theorem i_str1(k:IntKind)(a c:UInt8)(r:Lab):ixSD (some .string) (vs (a::c::r)) (.int k 1)=some (.int .u8 c.toNat):=(zkN (by decide) (by simp)).trans rfl
theorem i_str2(k:IntKind)(a b c:UInt8)(r:Lab):ixSD (some .string) (vs (a::b::c::r)) (.int k 2)=some (.int .u8 c.toNat):=(zkN (by decide) (by simp)).trans rfl
attribute [go_sem] i_str1 i_str2
theorem zkV(w:World)(s:Lab)(hl:s.length≤1000000000):Fn Tryz.prog 250 #[vs s] w (fun v w'=>v= .tuple #[zao (escD s).1,vi (escD s).2.1,vi (escD s).2.2]∧Ext w w'):=by
 refine enter Tryz.func250 Tryz.ntmps250 rfl rfl ?_
 refine go trivial ?_
 refine rc trivial (zmW w s hl) ?_
 rintro _ w1 ⟨rfl,hw1⟩
 subst hw1
 unfold escD
 by_cases h0:digN s=0
 ·rw[if_pos h0]
  have d0:decide ((digN s:Int)=0)=true:=decide_eq_true (by omega)
  cases s with
  |nil=>
   refine rgo d0 ?_
   refine zaf (.inr rfl) Tryz.ntmps250 rfl (zac (vr0) (zac (vr0) (zac (vr0) zae))) ?_
   exact⟨rfl,Keep.refl _ _⟩
  |cons c r=>
   have d1:decide (c::r=[])=false:=rfl
   refine rgo (an2 d0 d1) ?_
   refine zaf (.inr rfl) Tryz.ntmps250 rfl (zac (vr0) (zac (vr0) (zac (vr0) zae))) ?_
   exact⟨rfl,Keep.refl _ _⟩
 rw[if_neg h0]
 have d0:decide ((digN s:Int)=0)=false:=decide_eq_false (by omega)
 by_cases h3:digN s=3
 ·rw[if_pos h3]
  have d3:decide ((digN s:Int)=3)=true:=decide_eq_true (by omega)
  have hlen:3≤s.length∧∀j (hj:j<s.length),j<3→digB s[j]=true:=by
   have h4:((s.take 3).takeWhile digB).length=3:=h3
   have h5:((s.take 3).takeWhile digB).length≤(s.take 3).length:=(List.takeWhile_sublist _).length_le
   rw[h4,List.length_take]at h5
   have h6:(s.take 3).takeWhile digB=s.take 3:=(List.takeWhile_prefix digB).eq_of_length (by rw[h4,List.length_take];omega)
   refine⟨by omega,fun j hj h=>?_⟩
   have h7:s[j]∈(s.take 3).takeWhile digB:=by
    rw[h6]
    exact List.mem_iff_getElem.2 ⟨j,by rw[List.length_take];omega,by rw[List.getElem_take]⟩
   exact List.all_eq_true.1 List.all_takeWhile _ h7
  obtain⟨hl3,hdg⟩:=hlen
  obtain⟨a,b,c,r,rfl⟩:∃a b c r,s=a::b::c::r:=by
   match s,hl3 with
   |a::b::c::r,_=>exact⟨a,b,c,r,rfl⟩
  have ka:=hdg 0 (by simp) (by omega)
  have kb:=hdg 1 (by simp) (by omega)
  have kc:=hdg 2 (by simp) (by omega)
  simp only[List.getElem_cons_zero,List.getElem_cons_succ]at ka kb kc
  unfold digB at ka kb kc
  simp only[Bool.and_eq_true,decide_eq_true_eq]at ka kb kc
  obtain⟨x,hx⟩:∃x,a.toNat=48+x:=⟨a.toNat - 48,by omega⟩
  obtain⟨y,hy⟩:∃y,b.toNat=48+y:=⟨b.toNat - 48,by omega⟩
  obtain⟨z,hz⟩:∃z,c.toNat=48+z:=⟨c.toNat - 48,by omega⟩
  have hv:escV (a::b::c::r)=100*x+10*y+z:=by unfold escV;simp only;omega
  obtain⟨V,hV⟩:∃V,100*x+10*y+z=V:=⟨_,rfl⟩
  have ea:(a.toNat:Int) - 48=(x:Int):=by omega
  have eb:(b.toNat:Int) - 48=(y:Int):=by omega
  have ec:(c.toNat:Int) - 48=(z:Int):=by omega
  have eV:100*(x:Int)+10*(y:Int)+(z:Int)=(V:Int):=by omega
  have e0:(a::b::c::r)[Int.toNat 0]'(by simp)=a:=rfl
  have e1:(a::b::c::r)[Int.toNat 1]'(by simp)=b:=rfl
  have e2:(a::b::c::r)[Int.toNat 2]'(by simp)=c:=rfl
  rw[hv,hV]
  refine rgo (an2 d0 d3) ?_
  refine zas (Q:=fun e σ' ds' v'=>e= .normal∧ds'=[]∧Ext w v'∧σ' 5=vi V) ?_ ?_
  ·refine zaF (fun _=>false) [(0,true),(1,true),(2,true),(3,true),(4,true),(5,true),(6,true),(7,true),(8,true),(9,true),(10,true),(11,true),(12,true),(13,true),(14,true),(15,true),(16,true)] NoS mixed (by kernel_rfl) ?_;intro gd K x hgd hx hxe hK;have hx0:=zaT hxe;clear hxe
   simp (disch:=first|omega|assumption|rfl) only[go_sem,e0,e1,e2,ea,eb,ec,eV]
   refine hK _ _ ?_;clear hK hgd;clear K;try clear gd
   exact⟨rfl,rfl,hx0,vr0⟩
  rintro _ σ1 _ v1 ⟨rfl,rfl,hE1,g5⟩
  by_cases hb:255<V
  ·have d5:decide ((255:Int)<(V:Int))=true:=decide_eq_true (by omega)
   rw[if_pos hb]
   refine go (an2 g5 d5) ?_
   refine zaf (.inr rfl) Tryz.ntmps250 rfl (zac (vr0) (zac (vr0) (zac (vr0) zae))) ?_
   exact⟨rfl,hE1⟩
  ·have d5:decide ((255:Int)<(V:Int))=false:=decide_eq_false (by omega)
   rw[if_neg hb]
   refine go (an2 g5 d5) ?_
   refine zaf (.inr rfl) Tryz.ntmps250 rfl (zac (vr0) (zac (vr0) (zac (vr0) zae))) ?_
   exact⟨by rw[zct (by omega)];rfl,hE1⟩
 rw[if_neg h3]
 have d3:decide ((digN s:Int)=3)=false:=decide_eq_false (by omega)
 refine rgo (an2 d0 d3) ?_
 refine zaf (.inr rfl) Tryz.ntmps250 rfl (zac (vr0) (zac (vr0) (zac (vr0) zae))) ?_
 exact⟨rfl,Keep.refl _ _⟩
theorem zcv(w:World)(l:Lab)(c:UInt8):Fn Tryz.prog 75 #[vs l,zao c] w (fun v w'=>v=vi (Lib.indexByte l c)∧w'=w):=
 Fn.of_calls (Calls.mono (Any.strings_IndexByte Tryz.lays137 ⟨l.toArray⟩ (c.toNat:Int) w) fun _ _ ⟨he,hw⟩=>⟨_,he,by simp,hw⟩)
theorem escD_le(s:Lab):(escD s).2.1≤3∧0≤(escD s).2.2∧(escD s).2.2≤7:=by
 unfold escD
 split
 ·cases s<;>simp
 ·split
  ·split<;>simp
  ·simp
theorem unD_skip(bare:Lab)(k:Nat)(c:UInt8)(s acc:Lab):unD bare (k+1) (c::s) acc=unD bare k s acc:=by rw[unD]
structure UnI(w:World)(s bare:Lab)(B:Nat)(A:World)(bh:Nat)(acc:Lab):Prop where
 e:Ext w A
 hB:w.heap.size+6≤B
 c0:A.heap[w.heap.size]? =some (.cells #[vs s] 9 (0,0))
 c1:A.heap[w.heap.size+1]? =some (.cells #[vs bare] 9 (0,0))
 c2:A.heap[w.heap.size+2]? =some (.cells #[vs []] 9 (0,0))
 c3:A.heap[w.heap.size+3]? =some (.cells #[vi 0] 114 (0,0))
 c5:A.heap[w.heap.size+5]? =some (.cells #[vi bh] 3 (0,0))
 b:Bld B A (w.heap.size+4) acc
theorem UnI.lt{w:World}{s bare:Lab}{B:Nat}{A:World}{bh:Nat}{acc:Lab}(h:UnI w s bare B A bh acc):w.heap.size+5<A.heap.size:=(Array.getElem?_eq_some_iff.1 h.c5).1
theorem UnI.keep{w:World}{s bare:Lab}{B:Nat}{A X:World}{bh:Nat}{acc:Lab}{S:Nat→Prop}(h:UnI w s bare B A bh acc)(hk:Keep S A X)(hS:∀i,S i→w.heap.size+6≤i∧i<B):UnI w s bare B X bh acc:=by
 have hlt:=h.lt
 have hb:∀j,j<w.heap.size+6→X.heap[j]? =A.heap[j]?:=fun j hj=>hk.block _ (by omega) fun hs=>by have:=(hS _ hs).1;omega
 obtain⟨p,v,h1,h2,h3⟩:=h.b.ex
 exact⟨Keep.to_ext h.e rfl (fun i hi=>by have:=(hS i hi).1;omega) hk,h.hB,(hb _ (by omega)).trans h.c0,(hb _ (by omega)).trans h.c1,(hb _ (by omega)).trans h.c2,(hb _ (by omega)).trans h.c3,(hb _ (by omega)).trans h.c5,
  ⟨⟨p,v,h1,(hb _ (by omega)).trans h2,h3.keep hk fun i hi hs=>by have:=(hS i hs).2;have:=(h3.ge hi).1;omega⟩⟩⟩
theorem UnI.ext{w:World}{s bare:Lab}{B:Nat}{A X:World}{bh:Nat}{acc:Lab}(h:UnI w s bare B A bh acc)(hk:Ext A X):UnI w s bare B X bh acc:=h.keep hk fun _ h=>h.elim
theorem UnI.turn{w:World}{s bare:Lab}{B:Nat}{A X:World}{bh bh':Nat}{acc:Lab}(h:UnI w s bare B A bh acc)(hk:Keep (fun i=>i=w.heap.size+5) A X)(h5:X.heap[w.heap.size+5]? =some (.cells #[vi bh'] 3 (0,0))):UnI w s bare B X bh' acc:=by
 have hlt:=h.lt
 have hb:∀j,j<w.heap.size+5→X.heap[j]? =A.heap[j]?:=fun j hj=>hk.block _ (by omega) (by omega)
 obtain⟨p,v,h1,h2,h3⟩:=h.b.ex
 have hB:=h.hB
 exact⟨Keep.to_ext h.e rfl (fun i hi=>by omega) hk,h.hB,(hb _ (by omega)).trans h.c0,(hb _ (by omega)).trans h.c1,(hb _ (by omega)).trans h.c2,(hb _ (by omega)).trans h.c3,h5,
  ⟨⟨p,v,h1,(hb _ (by omega)).trans h2,h3.keep hk fun i hi hs=>by have:=(h3.ge hi).1;omega⟩⟩⟩
theorem UnI.wrote{w:World}{s bare:Lab}{B:Nat}{A X:World}{bh:Nat}{acc acc':Lab}(h:UnI w s bare B A bh acc)(hk:Keep (fun i=>i=w.heap.size+4∨B≤i) A X)(hb:Bld B X (w.heap.size+4) acc'):UnI w s bare B X bh acc':=by
 have hlt:=h.lt
 have hB:=h.hB
 have hb':∀j,j<w.heap.size+6→¬j=w.heap.size+4→X.heap[j]? =A.heap[j]?:=fun j hj hn=>hk.block _ (by omega) (by omega)
 exact⟨Keep.to_ext h.e rfl (fun i hi=>by omega) hk,h.hB,(hb' _ (by omega) (by omega)).trans h.c0,(hb' _ (by omega) (by omega)).trans h.c1,(hb' _ (by omega) (by omega)).trans h.c2,(hb' _ (by omega) (by omega)).trans h.c3,(hb' _ (by omega) (by omega)).trans h.c5,hb⟩
def UnE(w A:World)(e:Int):Prop:=Ext w A∧A.heap[w.heap.size+2]? =some (.cells #[vs []] 9 (0,0))∧A.heap[w.heap.size+3]? =some (.cells #[vi e] 114 (0,0))
theorem UnE.keep{w A X:World}{e:Int}{S:Nat→Prop}(h:UnE w A e)(hk:Keep S A X)(hS:∀i,S i→w.heap.size+4≤i):UnE w X e:=by
 obtain⟨h1,h2,h3⟩:=h
 have l1:=(Array.getElem?_eq_some_iff.1 h3).1
 exact⟨Keep.to_ext h1 rfl (fun i hi=>by have:=hS i hi;omega) hk,(hk.block _ (by omega) fun hs=>by have:=hS _ hs;omega).trans h2,(hk.block _ (by omega) fun hs=>by have:=hS _ hs;omega).trans h3⟩
theorem zge(w:World)(s bare:Lab)(hl:s.length≤1000000000):Fn Tryz.prog 229 #[vs s,vs bare] w (fun v w'=>v= .tuple #[vs (unD bare 0 s []).1,vi (unD bare 0 s []).2]∧Ext w w'):=by
 refine enter Tryz.func229 Tryz.ntmps229 rfl rfl ?_
 refine go trivial ?_
 simp only[zax]
 refine zhy ?_
 intro w0 hE0 hs0 hA2 hA3 hA4
 obtain⟨hEX,hsX,hA0,hA1⟩:=zcl w (.cells #[vs s] 9 (0,0)) (.cells #[vs bare] 9 (0,0))
 rw[hsX]at hs0 hA2 hA3 hA4
 refine rq ?_;intro gd K hgd hK
 try simp only[go_sem]
 refine zaq (P:=Tryz.prog) rfl rfl rfl (zat w0 _) (by simp) (by simp) ?_
 intro w1 hs1 hA5 hk1
 rw[zax]at hs1
 try simp only[go_sem]
 refine hK _ _ ?_;clear hK hgd;clear K;try clear gd
 rw[hs0]at hA5 ⊢
 have hE1:Ext w0 w1:=Keep.to_ext (Ext.alloc w0 _) rfl (fun b hb=>by omega) hk1
 have b0:=Ext.at (hE0.trans hE1) hA0
 have b1:=Ext.at (hE0.trans hE1) hA1
 have b2:=Ext.at hE1 hA2
 have b3:=Ext.at hE1 hA3
 have b4:=Ext.at hE1 hA4
 have hEw1:=(hEX.trans hE0).trans hE1
 refine go trivial ?_
 have c0:zad w1 (some ⟨w.heap.size,0,Option.none⟩)=some (vs s):=zaa b0 rfl
 refine rc c0 (zen w1 s (by omega)) ?_
 rintro _ w3 ⟨hE3,cap,rfl,hit⟩
 refine rgo trivial ?_
 have hs3:=hE3.size
 have hI3:UnI w s bare (w3.heap.size+2) w3 0 []:=⟨hEw1.trans hE3,by omega,hE3.at b0,hE3.at b1,hE3.at b2,hE3.at b3,hE3.at (by simpa using hA5),⟨⟨_,_,.inl rfl,hE3.at b4,Own.nil _ _ _⟩⟩⟩
 obtain⟨D,hD⟩:∃D,w3.heap.size=D:=⟨_,rfl⟩
 rw[hD]at hI3
 have hDw:w.heap.size+6≤D:=by omega
 refine zas (Q:=fun e σ' ds' v'=>(e= .normal∨e= .ret)∧ds'=[{target:= .collected D,args:=#[]}]∧v'.heap[D]? =some (.deferred (some []))∧(σ' 4= .pointer (some ⟨w.heap.size+2,0,Option.none⟩)∧σ' 5= .pointer (some ⟨w.heap.size+3,0,Option.none⟩)∧σ' 6= .pointer (some ⟨w.heap.size+4,0,Option.none⟩))∧
  ((e= .normal∧∃bh acc,UnI w s bare (D+2) v' bh acc∧acc.length≤s.length∧unD bare 0 s []=(acc,0))∨(e= .ret∧∃er,UnE w v' er∧unD bare 0 s []=([],er)))) ?_ ?_
 ·refine zc5 (g:=113) (cap:=cap) (vq0) rfl (hit (fun b=>w.heap.size+2≤b∧b≤w.heap.size+5) (fun b hb=>by omega)) (Keep.refl _ _) (Nat.le_refl _) (fun b hb=>by omega)
   (fun x A args h=>by rw[h];rfl)
   (fun pre A=>∃bh acc,UnI w s bare (D+2) A bh acc∧acc.length≤pre.length∧bh≤pre.length+4∧unD bare (bh - pre.length) (s.drop pre.length) acc=unD bare 0 s [])
   (fun c pre A=>c= .ret∧∃er,UnE w A er∧unD bare 0 s []=([],er)) ?_ ?_ ?_ ?_ ?_ ?_
  ·rintro pre A X ⟨bh,acc,h1,h2⟩ hk
   exact⟨bh,acc,h1.keep hk (fun i hi=>by unfold two at hi;omega),h2⟩
  ·rintro c pre A X ⟨rfl,er,h1,h2⟩ hk
   exact⟨rfl,er,h1.keep hk (fun i hi=>by unfold two at hi;omega),h2⟩
  ·exact⟨0,[],hI3,by simp,by simp,by simp⟩
  ·rintro lp pre x suf A args hxs hszA ⟨bh,acc,hI,hal,hbl,hun⟩ rfl
   obtain⟨hk,rfl⟩:=zcn hxs
   dsimp only
   refine go trivial ?_
   refine⟨rfl,KeepB.refl _ _ _,fun A2 hA2=>?_⟩
   rw[hD]at hszA hA2 ⊢
   have hI2:=hI.keep hA2 (fun i hi=>by unfold two at hi;omega)
   have hs2:=hA2.size
   clear hI
   obtain⟨c,hc⟩:∃c,s[pre.length]=c:=⟨_,rfl⟩
   rw[hc]
   rw[List.drop_eq_getElem_cons hk,hc]at hun
   obtain⟨i,hi⟩:∃i,pre.length=i:=⟨_,rfl⟩
   rw[hi]at hk hun hal hbl ⊢
   have hpl:∀y:UInt8×Nat,(pre++ [y]).length=i+1:=fun y=>by simp[hi]
   have c5:zad A2 (some ⟨w.heap.size+5,0,Option.none⟩)=some (vi bh):=zaa hI2.c5 rfl
   have hi2:(i:Int)+1=((i+1:Nat):Int):=by push_cast;rfl
   by_cases hb:i<bh
   ·have d1:decide ((i:Int)<(bh:Int))=true:=decide_eq_true (by omega)
    refine go (an2 c5 d1) ?_
    refine⟨⟨bh,acc,hI2,by rw[hpl];omega,by rw[hpl];omega,?_⟩,KeepB.refl _ _ _⟩
    rw[hpl,←hun,show bh - i=(bh - (i+1))+1 by omega,unD_skip]
   have d1:decide ((i:Int)<(bh:Int))=false:=decide_eq_false (by omega)
   rw[show bh - i=0 by omega,unD]at hun
   refine go (an2 c5 d1) ?_
   refine rq ?_;intro gd K hgd hK
   try simp (disch:=first|omega|assumption|rfl) only[go_sem,hi2]
   refine zaq rfl rfl rfl hI2.c5 (by simp) (by simp) ?_
   intro z1 hzs1 hzb1 hzk1
   try simp only[go_sem]
   refine hK _ _ ?_;clear hK hgd;clear K;try clear gd
   have hJ1:=hI2.turn hzk1 hzb1
   have hKz1:KeepB (D+2) (fun b=>w.heap.size+2≤b∧b≤w.heap.size+5) A2 z1:=hzk1.toB (by omega) (fun j hj h=>by omega)
   have k0:zad z1 (some ⟨w.heap.size,0,Option.none⟩)=some (vs s):=zaa hJ1.c0 rfl
   have k1:zad z1 (some ⟨w.heap.size+1,0,Option.none⟩)=some (vs bare):=zaa hJ1.c1 rfl
   clear c5 hI2
   have hbv:zao c= .int .u8 (c.toNat:Int):=rfl
   by_cases h92:c=92
   ·have d2:decide ((c.toNat:Int)=92)=true:=by subst h92;rfl
    rw[if_pos h92]at hun
    have z0:(0:Int)≤((i+1:Nat):Int):=by omega
    have z2:((i+1:Nat):Int)≤(s.length:Int):=by omega
    obtain⟨q,hq⟩:∃q,escD (s.drop (i+1))=q:=⟨_,rfl⟩
    have hle:=escD_le (s.drop (i+1))
    obtain⟨x,n,er⟩:=q
    rw[hq]at hun hle
    simp only at hun hle
    refine go (an2 hbv d2) ?_
    refine rc (an4 k0 hi2 z0 z2) (zkV z1 (s.drop (i+1)) (by rw[List.length_drop];omega)) ?_
    rintro _ y1 ⟨rfl,hE2⟩
    rw[hq]
    simp only
    have hJ2:=hJ1.ext hE2
    have hsy1:=hE2.size
    have hKy1:=hKz1.trans (hE2.toB (by omega) (fun _ _ h=>h.elim))
    by_cases he:er=0
    ·have d3:decide (er=0)=true:=decide_eq_true he
     rw[if_pos he]at hun
     refine rgo d3 ?_
     refine rc trivial (zbb (c:=x) hJ2.b (by have:=hJ2.lt;omega) (by omega)) ?_
     rintro _ y2 ⟨hB2,hk2⟩
     have hJ3:=hJ2.wrote hk2 hB2
     have hsy2:=hk2.size
     have hKy2:=hKy1.trans (hk2.toB (by omega) (fun j hj h=>by omega))
     have c5:zad y2 (some ⟨w.heap.size+5,0,Option.none⟩)=some (vi ((i+1:Nat):Int)):=zaa hJ3.c5 rfl
     have hin:((i+1:Nat):Int)+(n:Int)=((i+1+n:Nat):Int):=by push_cast;rfl
     refine rgo trivial ?_
     refine rq ?_;intro gd K hgd hK
     try simp (disch:=first|omega|assumption|rfl) only[go_sem,c5,hin]
     refine zaq rfl rfl rfl hJ3.c5 (by simp) (by simp) ?_
     intro y3 hys3 hyb3 hyk3
     try simp only[go_sem]
     refine hK _ _ ?_;clear hK hgd;clear K;try clear gd
     refine go trivial ?_
     refine⟨⟨i+1+n,acc++ [x],hJ3.turn hyk3 hyb3,by rw[hpl];simp;omega,by rw[hpl];omega,?_⟩,hKy2.trans (hyk3.toB (by omega) (fun j hj h=>by omega))⟩
     rw[hpl,←hun,show i+1+n - (i+1)=n by omega]
    ·have d3:decide (er=0)=false:=decide_eq_false he
     rw[if_neg he]at hun
     refine rgo d3 ?_
     refine rq ?_;intro gd K hgd hK
     try simp only[go_sem]
     refine zaq rfl rfl rfl hJ2.c2 (by simp) (by simp) ?_
     intro y2 hys2 hyb2 hyk2
     try simp only[go_sem]
     refine zaq rfl rfl rfl ((hyk2.block _ (by have:=hJ2.lt;omega) (by omega)).trans hJ2.c3) (by simp) (by simp) ?_
     intro y3 hys3 hyb3 hyk3
     try simp only[go_sem]
     refine hK _ _ ?_;clear hK hgd;clear K;try clear gd
     refine go trivial ?_
     refine⟨⟨rfl,er,⟨Keep.to_ext (Keep.to_ext hJ2.e rfl (fun i hi=>by omega) hyk2) rfl (fun i hi=>by omega) hyk3,(hyk3.block _ (by have:=hJ2.lt;omega) (by omega)).trans hyb2,hyb3⟩,hun.symm⟩,(hKy1.trans (hyk2.toB (by omega) (fun j hj h=>by omega))).trans (hyk3.toB (by omega) (fun j hj h=>by omega))⟩
   ·have d2:decide ((c.toNat:Int)=92)=false:=decide_eq_false fun h=>h92 (UInt8.toNat_inj.1 (by have:(92:UInt8).toNat=92:=rfl;omega))
    rw[if_neg h92]at hun
    have hhas:=zeu bare c
    refine go (an2 hbv d2) ?_
    refine rc k1 (zcv z1 bare c) ?_
    rintro _ y0 ⟨rfl,hy0⟩
    subst hy0
    cases ht:bare.contains c with
    |true=>
     rw[ht]at hhas hun
     rw[if_pos rfl]at hun
     refine rgo hhas ?_
     refine rq ?_;intro gd K hgd hK
     try simp only[go_sem]
     refine zaq rfl rfl rfl hJ1.c2 (by simp) (by simp) ?_
     intro y2 hys2 hyb2 hyk2
     try simp only[go_sem]
     refine zaq rfl rfl rfl ((hyk2.block _ (by have:=hJ1.lt;omega) (by omega)).trans hJ1.c3) (by simp) (by simp) ?_
     intro y3 hys3 hyb3 hyk3
     try simp only[go_sem]
     refine hK _ _ ?_;clear hK hgd;clear K;try clear gd
     refine go trivial ?_
     refine⟨⟨rfl,2,⟨Keep.to_ext (Keep.to_ext hJ1.e rfl (fun i hi=>by omega) hyk2) rfl (fun i hi=>by omega) hyk3,(hyk3.block _ (by have:=hJ1.lt;omega) (by omega)).trans hyb2,hyb3⟩,hun.symm⟩,(hKz1.trans (hyk2.toB (by omega) (fun j hj h=>by omega))).trans (hyk3.toB (by omega) (fun j hj h=>by omega))⟩
    |false=>
     rw[ht]at hhas hun
     rw[if_neg (by decide)]at hun
     refine rgo hhas ?_
     refine rc trivial (zbb (c:=c) hJ1.b (by have:=hJ1.lt;omega) (by omega)) ?_
     rintro _ y2 ⟨hB2,hk2⟩
     refine rgo trivial ?_
     refine⟨⟨i+1,acc++ [c],hJ1.wrote hk2 hB2,by rw[hpl];simp;omega,by rw[hpl];omega,?_⟩,hKz1.trans (hk2.toB (by omega) (fun j hj h=>by omega))⟩
     rw[hpl,←hun,Nat.sub_self]
  ·rintro v hsz ⟨bh,acc,h1,h2,_,h3⟩ hDv
   rw[hD]at hDv
   rw[List.drop_of_length_le (by simp),unD]at h3
   have hz:s.zipIdx.length=s.length:=by simp
   exact⟨.inl rfl,by rw[hD],hDv,⟨vr0,vr0,vr0⟩,.inl ⟨rfl,bh,acc,h1,by omega,h3.symm⟩⟩
  ·rintro c pre x suf v hsz hxs ⟨rfl,er,h1,h2⟩ hDv
   rw[hD]at hDv
   refine go trivial ?_
   exact⟨.inr rfl,by rw[hD],hDv,⟨vr0,vr0,vr0⟩,.inr ⟨rfl,er,h1,h2⟩⟩
 rintro e σ2 ds v ⟨_,rfl,hDv,⟨t4,t5,t6⟩,(⟨rfl,bh,acc,h1,h2,h3⟩| ⟨rfl,er,h1,h3⟩)⟩
 ·have hlv:=h1.lt
  refine go trivial ?_
  refine rq ?_;intro gd K hgd hK
  try simp (disch:=first|omega|assumption|rfl) only[go_sem,t6]
  refine Fn.mono (zcL h1.b (by omega)) ?_
  rintro _ y1 ⟨rfl,hy1⟩
  try simp (disch:=first|omega|assumption|rfl) only[go_sem,t4]
  refine zaq rfl rfl rfl ((hy1.block _ (by omega) (by omega)).trans h1.c2) (by simp) (by simp) ?_
  intro y2 hys2 hyb2 hyk2
  try simp (disch:=first|omega|assumption|rfl) only[go_sem,t5]
  refine zaq rfl rfl rfl ((hyk2.block _ (by have:=hy1.size;omega) (by omega)).trans ((hy1.block _ (by omega) (by omega)).trans h1.c3)) (by simp) (by simp) ?_
  intro y3 hys3 hyb3 hyk3
  try simp only[go_sem]
  refine hK _ _ ?_;clear hK hgd;clear K;try clear gd
  refine go trivial ?_
  have hsy:=hy1.size
  have e2:=(hyk3.block _ (by omega) (by omega)).trans (show y2.heap[w.heap.size+2]? =some (.cells #[vs acc] 9 (0,0)) by simpa using hyb2)
  have e3:y3.heap[w.heap.size+3]? =some (.cells #[vi 0] 114 (0,0)):=by simpa using hyb3
  have hlD:=(Array.getElem?_eq_some_iff.1 hDv).1
  have hBD:=h1.hB
  refine zdC (.inr rfl) Tryz.ntmps229 rfl ((hyk3.block _ (by omega) (by omega)).trans ((hyk2.block _ (by omega) (by omega)).trans ((hy1.block _ (by omega) (by omega)).trans hDv))) fun y hy hys=>⟨_,zcP (v:=vs acc) ((vq1 t4)) rfl rfl (zaa (i:=0) ((hy.block _ (by omega) (by omega)).trans e2) rfl) (zcP (v:=vi 0) ((vq1 t5)) rfl rfl (zaa (i:=0) ((hy.block _ (by omega) (by omega)).trans e3) rfl) zae),?_⟩
  rw[h3]
  exact⟨rfl,Keep.to_ext (Keep.to_ext (Keep.to_ext (Keep.to_ext h1.e rfl (fun i hi=>by omega) hy1) rfl (fun i hi=>by omega) hyk2) rfl (fun i hi=>by omega) hyk3) rfl (fun i hi=>by omega) hy⟩
 ·have hlv:=(Array.getElem?_eq_some_iff.1 h1.2.2).1
  refine go trivial ?_
  refine zdC (.inr rfl) Tryz.ntmps229 rfl hDv fun y hy hys=>⟨_,zcP (v:=vs []) ((vq1 t4)) rfl rfl (zaa (i:=0) ((hy.block _ (by omega) (by omega)).trans h1.2.1) rfl) (zcP (v:=vi er) ((vq1 t5)) rfl rfl (zaa (i:=0) ((hy.block _ (by omega) (by omega)).trans h1.2.2) rfl) zae),?_⟩
  rw[h3]
  exact⟨rfl,Keep.to_ext h1.1 rfl (fun i hi=>by omega) hy⟩
theorem zgw(bare:Lab):∀(k:Nat) (s acc:Lab),(unD bare k s acc).1.length≤acc.length+s.length
 |k,[],acc=>by cases k<;>simp[unD]
 |k+1,c::s,acc=>by
  rw[unD]
  have:=zgw bare k s acc
  rw[List.length_cons];omega
 |0,c::s,acc=>by
  rw[unD,List.length_cons]
  split
  ·split
   ·have:=zgw bare (escD s).2.1 s (acc++ [(escD s).1])
    rw[List.length_append,List.length_singleton]at this;omega
   ·simp
  ·split
   ·simp
   ·have:=zgw bare 0 s (acc++ [c])
    rw[List.length_append,List.length_singleton]at this;omega
theorem znu(w:World)(p:Lab)(hl:p.length≤1000000000):Fn Tryz.prog 201 #[vs p] w (fun v w'=>v= .tuple #[vs (labD p).1,vi (labD p).2]∧Ext w w'):=by
 refine enter Tryz.func201 Tryz.ntmps201 rfl rfl ?_
 refine go trivial ?_
 refine rc trivial (zge w p [46] hl) ?_
 rintro _ w1 ⟨rfl,hE1⟩
 have hul:=zgw [46] 0 p []
 rw[List.length_nil]at hul
 unfold labD errP
 obtain⟨⟨l,e⟩,hq⟩:∃q,unD [46] 0 p []=q:=⟨_,rfl⟩
 rw[hq]at hul ⊢
 simp only at hul ⊢
 by_cases he:e=0
 ·have d1:decide (e=0)=true:=decide_eq_true he
  simp only[if_pos he]
  refine rgo d1 ?_
  refine rc trivial (ziN w1 l (by omega)) ?_
  rintro _ w2 ⟨rfl,hE2⟩
  by_cases hc:errL l=0
  ·have d2:decide (errL l=0)=true:=decide_eq_true hc
   rw[if_pos hc]
   refine rgo d2 ?_
   refine zaf (.inr rfl) Tryz.ntmps201 rfl (zac (vr0) (zac (vr0) zae)) ?_
   exact⟨rfl,hE1.trans hE2⟩
  ·have d2:decide (errL l=0)=false:=decide_eq_false hc
   rw[if_neg hc]
   refine rgo d2 ?_
   refine zaf (.inr rfl) Tryz.ntmps201 rfl (zac (vr0) (zac (vr0) zae)) ?_
   exact⟨rfl,hE1.trans hE2⟩
 ·have d1:decide (e=0)=false:=decide_eq_false he
  simp only[if_neg he]
  refine rgo d1 ?_
  refine zaf (.inr rfl) Tryz.ntmps201 rfl (zac (vr0) (zac (vr0) zae)) ?_
  exact⟨rfl,hE1⟩
theorem cut_more{s:Lab}{f i:Nat}(hf:f≤i)(hi:i<s.length):(s.drop f).take (i+1 - f)=(s.drop f).take (i - f)++ [s[i]]:=by
 rw[show i+1 - f=(i - f)+1 by omega,List.take_add_one,List.getElem?_drop,show f+(i - f)=i by omega,List.getElem?_eq_getElem hi]
 rfl
theorem zfE:∀(s:Lab) (t:Bool) (cur:Lab),(splD t cur s).1.length≤s.length+1∧∀p∈(splD t cur s).1,p.length≤cur.length+s.length
 | [],t,cur=>by cases t<;>simp[splD]
 |c::s,true,cur=>by
  obtain⟨h1,h2⟩:=zfE s false (cur++ [c])
  rw[splD]
  refine⟨by rw[List.length_cons];omega,fun p hp=>?_⟩
  have:=h2 p hp
  rw[List.length_append,List.length_singleton]at this
  rw[List.length_cons];omega
 |c::s,false,cur=>by
  rw[splD]
  split
  ·obtain⟨h1,h2⟩:=zfE s true (cur++ [c])
   refine⟨by rw[List.length_cons];omega,fun p hp=>?_⟩
   have:=h2 p hp
   rw[List.length_append,List.length_singleton]at this
   rw[List.length_cons];omega
  ·split
   ·obtain⟨h1,h2⟩:=zfE s false []
    refine⟨by simp only[List.length_cons];omega,fun p hp=>?_⟩
    rcases List.mem_cons.1 hp with rfl|hp
    ·rw[List.length_cons];omega
    ·have:=h2 p hp
     rw[List.length_nil]at this
     rw[List.length_cons];omega
   ·obtain⟨h1,h2⟩:=zfE s false (cur++ [c])
    refine⟨by rw[List.length_cons];omega,fun p hp=>?_⟩
    have:=h2 p hp
    rw[List.length_append,List.length_singleton]at this
    rw[List.length_cons];omega
structure SpI(w:World)(s:Lab)(B:Nat)(A:World)(f:Nat)(t:Bool)(out:List Lab):Prop where
 e:Ext w A
 hB:w.heap.size+5≤B
 c0:A.heap[w.heap.size]? =some (.cells #[vs s] 9 (0,0))
 c2:∃sv,A.heap[w.heap.size+2]? =some (.cells #[sv] 23 (0,0))∧Own (w.heap.size+1) A 9 sv (out.map vs)∧∀i,some i=sv.ownBlock→i=w.heap.size+1∨B≤i
 c3:A.heap[w.heap.size+3]? =some (.cells #[vi f] 3 (0,0))
 c4:A.heap[w.heap.size+4]? =some (.cells #[.bool t] 4 (0,0))
theorem SpI.lt{w:World}{s:Lab}{B:Nat}{A:World}{f:Nat}{t:Bool}{out:List Lab}(h:SpI w s B A f t out):w.heap.size+4<A.heap.size:=(Array.getElem?_eq_some_iff.1 h.c4).1
theorem SpI.keep{w:World}{s:Lab}{B:Nat}{A X:World}{f:Nat}{t:Bool}{out:List Lab}{S:Nat→Prop}(h:SpI w s B A f t out)(hk:Keep S A X)(hS:∀i,S i→w.heap.size+5≤i∧i<B):SpI w s B X f t out:=by
 have hlt:=h.lt
 have hb:∀j,j<w.heap.size+5→X.heap[j]? =A.heap[j]?:=fun j hj=>hk.block _ (by omega) fun hs=>by have:=(hS _ hs).1;omega
 obtain⟨sv,h1,h2,h3⟩:=h.c2
 exact⟨Keep.to_ext h.e rfl (fun i hi=>by have:=(hS i hi).1;omega) hk,h.hB,(hb _ (by omega)).trans h.c0,⟨sv,(hb _ (by omega)).trans h1,h2.keep hk fun i hi hs=>by have:=hS i hs;have:=h3 i hi;omega,h3⟩,(hb _ (by omega)).trans h.c3,(hb _ (by omega)).trans h.c4⟩
theorem SpI.ext{w:World}{s:Lab}{B:Nat}{A X:World}{f:Nat}{t:Bool}{out:List Lab}(h:SpI w s B A f t out)(hk:Ext A X):SpI w s B X f t out:=h.keep hk fun _ h=>h.elim
theorem SpI.turn{w:World}{s:Lab}{B:Nat}{A X:World}{f:Nat}{t t':Bool}{out:List Lab}(h:SpI w s B A f t out)(hk:Keep (fun i=>i=w.heap.size+4) A X)(h4:X.heap[w.heap.size+4]? =some (.cells #[.bool t'] 4 (0,0))):SpI w s B X f t' out:=by
 have hlt:=h.lt
 have hB:=h.hB
 have hb:∀j,j<w.heap.size+4→X.heap[j]? =A.heap[j]?:=fun j hj=>hk.block _ (by omega) (by omega)
 obtain⟨sv,h1,h2,h3⟩:=h.c2
 exact⟨Keep.to_ext h.e rfl (fun i hi=>by omega) hk,h.hB,(hb _ (by omega)).trans h.c0,⟨sv,(hb _ (by omega)).trans h1,h2.keep hk fun i hi hs=>by have:=h3 i hi;omega,h3⟩,(hb _ (by omega)).trans h.c3,h4⟩
theorem znt(w:World)(s:Lab)(hl:s.length≤1000000000):Fn Tryz.prog 200 #[vs s] w (fun v w'=>Ext w w'∧(((splD false [] s).2=true∧v= .tuple #[.slice Option.none 0 0,vi 2])∨((splD false [] s).2=false∧∃sv,v= .tuple #[sv,vi 0]∧Row w' sv ((splD false [] s).1.map vs)))):=by
 refine enter Tryz.func200 Tryz.ntmps200 rfl rfl ?_
 refine go trivial ?_
 refine zan ?_
 intro w1 hE1 hs1 hA0
 refine rq ?_;intro gd K hgd hK
 try simp only[go_sem]
 refine zkf (z:=vs []) rfl rfl rfl rfl ?_
 intro w2 hE2 hs2 hown2
 try simp only[go_sem]
 refine zaq (P:=Tryz.prog) rfl rfl rfl (zat w2 _) (by simp) (by simp) ?_
 intro x1 hx1 hbx hkx
 rw[zax]at hx1
 have hEx:Ext w2 x1:=Keep.to_ext (Ext.alloc w2 _) rfl (fun b hb=>by omega) hkx
 try simp only[go_sem]
 refine hK _ _ ?_;clear hK hgd;clear K;try clear gd
 refine go trivial ?_
 obtain⟨hEY,hsY,hY0,hY1⟩:=zcl x1 (.cells #[vi 0] 3 (0,0)) (.cells #[.bool false] 4 (0,0))
 refine rq ?_;intro gd K hgd hK
 try simp only[go_sem]
 refine zaq (P:=Tryz.prog) rfl rfl rfl hY0 (by simp) (by simp) ?_
 intro x2 hx2 hbx2 hkx2
 rw[hsY]at hx2
 try simp only[go_sem]
 simp only[zax]
 refine zaq (P:=Tryz.prog) rfl rfl rfl ((hkx2.block _ (by rw[hsY];omega) (by omega)).trans hY1) (by simp) (by simp) ?_
 intro w3 hs3 hbx3 hkx3
 try simp only[go_sem]
 refine hK _ _ ?_;clear hK hgd;clear K;try clear gd
 have hE3:Ext x1 w3:=Keep.to_ext (Keep.to_ext hEY rfl (fun b hb=>by omega) hkx2) rfl (fun b hb=>by omega) hkx3
 have hB3:=(hkx3.block x1.heap.size (by omega) (by omega)).trans hbx2
 have hsx:x1.heap.size=w.heap.size+3:=by omega
 have hsx':x1.heap.size+1=w.heap.size+4:=by omega
 have hsw:w2.heap.size=w.heap.size+2:=by omega
 simp only[zax]
 rw[hsx']at hbx3 ⊢
 rw[hsx]at hB3 ⊢
 rw[hsw,hs1]at hbx ⊢
 rw[hs1]at hown2
 have hB2:=Ext.at hE3 hbx
 refine go trivial ?_
 have c0:zad w3 (some ⟨w.heap.size,0,Option.none⟩)=some (vs s):=zaa (Ext.at hE3 (Ext.at hEx (hE2.at hA0))) rfl
 refine rc c0 (zen w3 s (by omega)) ?_
 rintro _ w4 ⟨hE4,cap,rfl,hit⟩
 refine rgo trivial ?_
 have hs4:=hE4.size
 have hI4:SpI w s (w4.heap.size+2) w4 0 false []:=⟨(((hE1.trans hE2).trans hEx).trans hE3).trans hE4,by omega,hE4.at (Ext.at hE3 (Ext.at hEx (hE2.at hA0))),⟨_,hE4.at hB2,((hown2.ext hEx).ext hE3).ext hE4,fun i hi=> .inl (by cases hi;rfl)⟩,hE4.at hB3,hE4.at hbx3⟩
 obtain⟨D,hD⟩:∃D,w4.heap.size=D:=⟨_,rfl⟩
 rw[hD]at hI4
 have hDw:w.heap.size+5≤D:=by omega
 refine zas (Q:=fun e σ' ds' v'=>e= .normal∧ds'=[{target:= .collected D,args:=#[]}]∧v'.heap[D]? =some (.deferred (some []))∧(σ' 1= .pointer (some ⟨w.heap.size,0,Option.none⟩)∧σ' 4= .pointer (some ⟨w.heap.size+2,0,Option.none⟩)∧σ' 5= .pointer (some ⟨w.heap.size+3,0,Option.none⟩)∧σ' 6= .pointer (some ⟨w.heap.size+4,0,Option.none⟩))∧
  ∃f t out,SpI w s (D+2) v' f t out∧out.length≤s.length∧f≤s.length∧splD false [] s=(out++ [s.drop f],t)) ?_ ?_
 ·refine zc5 (g:=113) (cap:=cap) (vq0) rfl (hit (fun b=>w.heap.size+1≤b∧b≤w.heap.size+4) (fun b hb=>by omega)) (Keep.refl _ _) (Nat.le_refl _) (fun b hb=>by omega)
   (fun x A args h=>by rw[h];rfl)
   (fun pre A=>∃f t out,SpI w s (D+2) A f t out∧out.length≤pre.length∧f≤pre.length∧splD false [] s=(out++(splD t ((s.drop f).take (pre.length - f)) (s.drop pre.length)).1,(splD t ((s.drop f).take (pre.length - f)) (s.drop pre.length)).2))
   (fun _ _ _=>False) ?_ (fun _ _ _ _ h _=>h.elim) ?_ ?_ ?_ (fun _ _ _ _ _ _ _ h _=>h.elim)
  ·rintro pre A X ⟨f,t,out,h1,h2⟩ hk
   exact⟨f,t,out,h1.keep hk (fun i hi=>by unfold two at hi;omega),h2⟩
  ·exact⟨0,false,[],hI4,by simp,by simp,by simp⟩
  ·rintro lp pre x suf A args hxs hszA ⟨f,t,out,hI,hol,hfl,hsp⟩ rfl
   obtain⟨hk,rfl⟩:=zcn hxs
   dsimp only
   refine go trivial ?_
   refine⟨rfl,KeepB.refl _ _ _,fun A2 hA2=>?_⟩
   rw[hD]at hszA hA2 ⊢
   have hI2:=hI.keep hA2 (fun i hi=>by unfold two at hi;omega)
   have hs2':=hA2.size
   clear hI
   obtain⟨i,hi⟩:∃i,pre.length=i:=⟨_,rfl⟩
   simp only[hi]at hk hsp hol hfl ⊢
   obtain⟨c,hc⟩:∃c,s[i]=c:=⟨_,rfl⟩
   have hcm:=cut_more hfl hk
   rw[hc]at hcm ⊢
   rw[List.drop_eq_getElem_cons hk,hc]at hsp
   have hpl:∀y:UInt8×Nat,(pre++ [y]).length=i+1:=fun y=>by simp[hi]
   have c4:zad A2 (some ⟨w.heap.size+4,0,Option.none⟩)=some (.bool t):=zaa hI2.c4 rfl
   have hi2:(i:Int)+1=((i+1:Nat):Int):=by push_cast;rfl
   have hbv:zao c= .int .u8 (c.toNat:Int):=rfl
   cases t with
   |true=>
    rw[splD,←hcm]at hsp
    refine go c4 ?_
    refine rq ?_;intro gd K hgd hK
    try simp only[go_sem]
    refine zaq rfl rfl rfl hI2.c4 (by simp) (by simp) ?_
    intro z1 hzs1 hzb1 hzk1
    try simp only[go_sem]
    refine hK _ _ ?_;clear hK hgd;clear K;try clear gd
    refine go trivial ?_
    exact⟨⟨f,false,out,hI2.turn hzk1 hzb1,by rw[hpl];omega,by rw[hpl];omega,by rw[hpl];exact hsp⟩,hzk1.toB (by omega) (fun j hj h=>by omega)⟩
   |false=>
    rw[splD]at hsp
    by_cases h92:c=92
    ·have d2:decide ((c.toNat:Int)=92)=true:=by subst h92;rfl
     rw[if_pos h92,←hcm]at hsp
     refine go (an3 c4 hbv d2) ?_
     refine rq ?_;intro gd K hgd hK
     try simp only[go_sem]
     refine zaq rfl rfl rfl hI2.c4 (by simp) (by simp) ?_
     intro z1 hzs1 hzb1 hzk1
     try simp only[go_sem]
     refine hK _ _ ?_;clear hK hgd;clear K;try clear gd
     refine go trivial ?_
     exact⟨⟨f,true,out,hI2.turn hzk1 hzb1,by rw[hpl];omega,by rw[hpl];omega,by rw[hpl];exact hsp⟩,hzk1.toB (by omega) (fun j hj h=>by omega)⟩
    have d2:decide ((c.toNat:Int)=92)=false:=decide_eq_false fun h=>h92 (UInt8.toNat_inj.1 (by have:(92:UInt8).toNat=92:=rfl;omega))
    rw[if_neg h92]at hsp
    by_cases h46:c=46
    rotate_left
    ·have d3:decide ((c.toNat:Int)=46)=false:=decide_eq_false fun h=>h46 (UInt8.toNat_inj.1 (by have:(46:UInt8).toNat=46:=rfl;omega))
     rw[if_neg h46,←hcm]at hsp
     refine go (an4 c4 hbv d2 d3) ?_
     exact⟨⟨f,false,out,hI2,by rw[hpl];omega,by rw[hpl];omega,by rw[hpl];exact hsp⟩,KeepB.refl _ _ _⟩
    have d3:decide ((c.toNat:Int)=46)=true:=by subst h46;rfl
    rw[if_pos h46]at hsp
    obtain⟨sv,hsvb,hown,hob⟩:=hI2.c2
    have k0:zad A2 (some ⟨w.heap.size,0,Option.none⟩)=some (vs s):=zaa hI2.c0 rfl
    have k2:zad A2 (some ⟨w.heap.size+2,0,Option.none⟩)=some sv:=zaa hsvb rfl
    have k3:zad A2 (some ⟨w.heap.size+3,0,Option.none⟩)=some (vi f):=zaa hI2.c3 rfl
    have z0:(0:Int)≤(f:Int):=by omega
    have z1:(f:Int)≤(i:Int):=by omega
    have z2:(i:Int)≤(s.length:Int):=by omega
    have hlt:=hI2.lt
    have hB5:=hI2.hB
    refine go (an4 c4 hbv d2 d3) ?_
    refine zaF (fun i=>i==6||i==9||i==10) [(0,true),(1,true),(2,true),(3,true),(4,true),(7,true),(8,true),(5,false),(6,false),(9,false),(10,false)] NoS mixed (by kernel_rfl) ?_;intro gd K x hgd hx hxe hK;have hx0:=zaT hxe;clear hxe
    have q0:=zab hx0 k0
    have q2:=zab hx0 k2
    have q3:=zab hx0 k3
    have hsx:=hx0.size
    simp (disch:=first|omega|assumption|rfl) only[go_sem,q0,q2,q3,z0,z1,z2]
    refine zbk (z:=vs []) rfl rfl rfl rfl rfl ?_
    intro y1 hy1 hys1 hyo
    refine⟨.inr hy1.keep,?_⟩
    simp (disch:=first|omega|assumption|rfl) only[go_sem]
    have hxy:=hx0.trans hy1
    refine za8 (e:=9) (hown.ext hxy) hyo.row rfl rfl rfl rfl rfl rfl (vr0) (vr0) (fun q hq=>by simp at hq;subst hq;rfl) (by simp;omega) (by decide) (by omega) ?_
    intro sv' y2 hown2' hX2 hK2 hb2
    refine⟨.inl rfl,?_⟩
    simp (disch:=first|omega|assumption|rfl) only[go_sem,hi2]
    have hsy1:=hy1.size
    have hsK2:=hK2.size
    have hbk:∀j,j<w.heap.size+5→¬j=w.heap.size+1→y2.heap[j]? =A2.heap[j]?:=fun j hj hn=>(hK2.block j (by omega) (fun hh=>by have:=hob _ hh;omega)).trans (hxy.block j (by omega) fun h=>h)
    refine zaq (P:=Tryz.prog) rfl rfl (by obtain⟨a,c,rfl⟩:=hown2'.slice;rfl) ((hbk _ (by omega) (by omega)).trans hsvb) (by simp) (by simp) ?_
    intro y3 hs3' hb3 hk3
    refine⟨.inl rfl,?_⟩
    simp (disch:=first|omega|assumption|rfl) only[go_sem,hi2]
    refine zaq (P:=Tryz.prog) rfl rfl rfl ((hk3.block _ (by omega) (by omega)).trans ((hbk _ (by omega) (by omega)).trans hI2.c3)) (by simp) (by simp) ?_
    intro y4 hs4' hb4 hk4
    refine⟨.inl rfl,?_⟩
    simp (disch:=first|omega|assumption|rfl) only[go_sem]
    refine hK _ _ ?_;clear hK hgd;clear K;try clear gd
    refine go trivial ?_
    have hbk4:∀j,j<w.heap.size+5→¬j=w.heap.size+1→¬j=w.heap.size+2→¬j=w.heap.size+3→y4.heap[j]? =A2.heap[j]?:=fun j hj h1 h2 h3=>(hk4.block j (by omega) h3).trans ((hk3.block j (by omega) h2).trans (hbk j hj h1))
    have hob':∀j,some j=sv'.ownBlock→j=w.heap.size+1∨D+2≤j:=fun j hj=>by
     rcases hb2 j hj with h|h
     ·exact hob j h
     ·omega
    refine⟨⟨i+1,false,out++ [(s.drop f).take (i - f)],⟨Keep.to_ext (Keep.to_ext (Keep.to_ext (hI2.e.trans hxy) rfl (fun j hj=>by have:=hob j hj;omega) hK2) rfl (fun j hj=>by omega) hk3) rfl (fun j hj=>by omega) hk4,hB5,(hbk4 _ (by omega) (by omega) (by omega) (by omega)).trans hI2.c0,⟨sv',(hk4.block _ (by omega) (by omega)).trans hb3,?_,hob'⟩,hb4,(hbk4 _ (by omega) (by omega) (by omega) (by omega)).trans hI2.c4⟩,by rw[hpl];simp;omega,by rw[hpl];omega,?_⟩,
     ((hxy.toB (by omega) (fun _ _ h=>h.elim)).trans (hK2.toB (by omega) (fun j hj h=>by have:=hob j h;omega))).trans ((hk3.toB (by omega) (fun j hj h=>by omega)).trans (hk4.toB (by omega) (fun j hj h=>by omega)))⟩
    ·rw[List.map_append]
     exact(hown2'.keep hk3 fun j hj h=>by have:=hob' j hj;omega).keep hk4 fun j hj h=>by have:=hob' j hj;omega
    ·rw[hpl,hsp,Nat.sub_self,List.take_zero,List.append_assoc]
     rfl
  ·rintro v hsz ⟨f,t,out,h1,h2,h3,h4⟩ hDv
   rw[hD]at hDv
   have hz:s.zipIdx.length=s.length:=by simp
   rw[hz]at h2 h3 h4
   rw[List.drop_length]at h4
   have h5:splD false [] s=(out++ [s.drop f],t):=by
    rw[h4]
    have:(s.drop f).take (s.length - f)=s.drop f:=List.take_of_length_le (by rw[List.length_drop];omega)
    rw[this]
    cases t<;>rw[splD]
   exact⟨rfl,by rw[hD],hDv,⟨vr0,vr0,vr0,vr0⟩,f,t,out,h1,h2,h3,h5⟩
 rintro _ σ2 ds v ⟨rfl,rfl,hDv,⟨t1,t4,t5,t6⟩,f,t,out,hI,hol,hfl,hsp⟩
 have hlv:=hI.lt
 have c4:zad v (some ⟨w.heap.size+4,0,Option.none⟩)=some (.bool t):=zaa hI.c4 rfl
 cases t with
 |true=>
  refine go (an2 t6 c4) ?_
  refine zhR (v:= .slice Option.none 0 0) (v':=vi 2) (.inr rfl) (by rfl) Tryz.ntmps200 (vr0) (vr0) hDv ?_
  intro Z hkZ hsZ
  exact⟨Keep.to_ext hI.e rfl (fun i hi=>by omega) hkZ,.inl ⟨by rw[hsp],rfl⟩⟩
 |false=>
  obtain⟨sv,hsvb,hown,hob⟩:=hI.c2
  have k0:zad v (some ⟨w.heap.size,0,Option.none⟩)=some (vs s):=zaa hI.c0 rfl
  have k2:zad v (some ⟨w.heap.size+2,0,Option.none⟩)=some sv:=zaa hsvb rfl
  have k3:zad v (some ⟨w.heap.size+3,0,Option.none⟩)=some (vi f):=zaa hI.c3 rfl
  have z0:(0:Int)≤(f:Int):=by omega
  have z2:(f:Int)≤(s.length:Int):=by omega
  refine go (an2 t6 c4) ?_
  refine zaF (fun i=>i==5) [(0,true),(1,true),(2,true),(3,true),(4,false),(5,false),(6,true),(7,true)] NoS mixed (by kernel_rfl) ?_;intro gd K x hgd hx hxe hK;have hx0:=zaT hxe;clear hxe
  have q0:=zab hx0 k0
  have q2:=zab hx0 k2
  have q3:=zab hx0 k3
  have hsx:=hx0.size
  simp (disch:=first|omega|assumption|rfl) only[go_sem,t1,t4,t5,q0,q2,q3,z0,z2]
  refine zbk (z:=vs []) rfl rfl rfl rfl rfl ?_
  intro y1 hy1 hys1 hyo
  refine⟨.inr hy1.keep,?_⟩
  simp (disch:=first|omega|assumption|rfl) only[go_sem]
  have hxy:=hx0.trans hy1
  have hsy1:=hy1.size
  refine za8 (e:=9) (hown.ext hxy) hyo.row rfl rfl rfl rfl rfl rfl (vr0) (vr0) (fun q hq=>by simp at hq;subst hq;rfl) (by simp;omega) (by decide) (by omega) ?_
  intro sv' y2 hown2' hX2 hK2 hb2
  refine⟨.inl rfl,?_⟩
  simp (disch:=first|omega|assumption|rfl) only[go_sem]
  refine hK _ _ ?_;clear hK hgd;clear K;try clear gd
  have hlD:=(Array.getElem?_eq_some_iff.1 hDv).1
  have hB5:=hI.hB
  refine go trivial ?_
  refine zhR (v:=sv') (v':=vi 0) (.inr rfl) (by rfl) Tryz.ntmps200 (vr0) (vr0) ((hK2.block D (by omega) (fun hh=>by have:=hob _ hh;omega)).trans (Ext.at hxy hDv)) ?_
  intro Z hkZ hsZ
  refine⟨Keep.to_ext (Keep.to_ext (hI.e.trans hxy) rfl (fun j hj=>by have:=hob j hj;omega) hK2) rfl (fun i hi=>by omega) hkZ,.inr ⟨by rw[hsp],sv',rfl,?_⟩⟩
  rw[hsp]
  simp only[List.map_append,List.map_cons,List.map_nil]
  exact(hown2'.keep hkZ fun j hj h=>by
   rcases hb2 j hj with h2|h2
   ·have:=hob j h2;omega
   ·omega).row
def encL(x:Lab)(_:World)(args:Array Value):Prop:=args=#[vs x]
theorem revDrop{n:Nm}{k:Nat}(hk:k<n.length):(n.take (k+1)).reverse=n[k]::(n.take k).reverse:=by
 rw[zak hk];simp
theorem labelsIt{W0:World}{C:Nat→Prop}{bn:Nat}{nv:Value}{n:Nm}(hbn:W0.heap[bn]? =some (.cells #[nv] 24 (0,0)))(hn:Row W0 nv (n.map vs))(hC1:¬C bn)(hCw:n≠ []→∀b,C b→b<W0.heap.size→∀a m c,nv= .slice (some a) m c→a.block≠b)(hnl:n.length≤1000000000000)
  (hnb:n≠ []→∀a m c,nv= .slice (some a) m c→a.block<W0.heap.size):
  Iter Tryz.prog 251 #[.pointer (some ⟨bn,0,Option.none⟩)] W0 W0.heap.size C n.reverse encL:=by
 intro lp J Jx W hW hnW hJ hJx hY h0
 obtain⟨an,cn,rfl,hcn,hgn⟩:=hn
 simp only[List.length_map]at hcn hgn hbn hCw hnb
 have hln:=(Array.getElem?_eq_some_iff.1 hbn).1
 have p0:zad W (some ⟨bn,0,Option.none⟩)=some (.slice an n.length cn):=zab hW (zaa hbn rfl)
 refine enter Tryz.func251 Tryz.ntmps251 rfl rfl ?_
 repeat refine c_r ?_
 refine rg2 p0 Nat.add_zero ?_
 repeat refine c_r ?_
 refine zaD (fun m σ ds v=>ds=[]∧∃(pre:List Lab) (k:Nat),n.reverse=pre++(n.take k).reverse∧k≤m∧k≤n.length∧σ 3=vi ((k:Int) - 1)∧σ 0= .func (.yield lp) #[] #[]∧σ 1= .pointer (some ⟨bn,0,Option.none⟩)∧J pre v∧KeepB W0.heap.size C W v) n.length ?_ ?_
 ·exact⟨rfl,[],n.length,by simp,Nat.le_refl _,Nat.le_refl _,vq0,vq0,vq0,h0,KeepB.refl _ _ _⟩
 rintro m σ ds v ⟨rfl,pre,k,hd,hkm,hkn,h3,hs0,hs1,hjj,hKB⟩
 have p1:zad v (some ⟨bn,0,Option.none⟩)=some (.slice an n.length cn):=zbJ hKB hln hC1 p0
 repeat refine c_r ?_
 refine rg1 h3 ?_
 repeat refine c_r ?_
 refine wc0 ?_ ?_
 ·intro hge
  simp only[decide_eq_true_eq,ge_iff_le]at hge
  obtain⟨j,rfl⟩:∃j,k=j+1:=⟨k - 1,by omega⟩
  have hj:j<n.length:=by omega
  have ej:((j+1:Nat):Int) - 1=(j:Int):=by omega
  rw[ej]at h3
  have hj0:(0:Int)≤(j:Int):=by omega
  have hj1:(j:Int)<(n.length:Int):=by omega
  have hg:=hgn j (by simpa using hj)
  rw[List.getElem_map]at hg
  obtain⟨xn,rfl⟩:=Option.isSome_iff_exists.1 (zai hg)
  have hnn:n≠ []:=List.length_pos_iff.1 (by omega)
  have hgv:zad v (adr (some xn) j)=some (vs n[j]):=by
   have hb:=hnb hnn xn _ _ rfl
   have h1:=zab hW hg
   refine zbJ hKB (by rw[zcj];exact hb) (fun hc=>?_) h1
   rw[zcj]at hc
   exact hCw hnn _ hc hb xn _ _ rfl rfl
  have hxs:n.reverse=pre++n[j]::(n.take j).reverse:=by rw[hd,revDrop hj]
  repeat refine c_r ?_
  refine rq ?_;intro gd K hgd hK
  try simp (disch:=first|omega|assumption|rfl) only[go_sem,h3,hs0,hs1,p1,hj0,hj1,hgv]
  refine Yld.mono (hY pre n[j] (n.take j).reverse v _ hxs hjj hKB rfl) ?_
  rintro u x (⟨rfl,hj',hk'⟩| ⟨rfl,hjx⟩)
  ·try simp only[go_sem]
   refine hK _ _ ?_;clear hK hgd;clear K;try clear gd
   repeat refine c_r ?_
   refine wc0 ?_ ?_
   ·intro h;simp at h
   ·intro _
    repeat refine c_r ?_
    refine rg1 h3 ?_
    refine zaz ?_
    exact⟨m - 1,by omega,rfl,pre++ [n[j]],j,by rw[hxs];simp,by omega,by omega,vq0,(vq1 hs0),(vq1 hs1),hj',hKB.trans hk'⟩
  ·try simp only[go_sem]
   refine hK _ _ ?_;clear hK hgd;clear K;try clear gd
   repeat refine c_r ?_
   refine wc0 ?_ ?_
   ·intro _
    repeat refine c_r ?_
    refine zaw (by simp) rfl (.inr ⟨_,_,_,hxs,hjx⟩)
   ·intro h;simp at h
 ·intro hge
  simp only[decide_eq_false_iff_not,ge_iff_le]at hge
  have hk0:k=0:=by omega
  subst hk0
  repeat refine c_r ?_
  refine zaw (by simp) rfl (.inl ?_)
  rw[hd];simpa using hjj
theorem zmu{w:World}{nv:Value}(hn:∃a n c,nv= .slice a n c):
  Fn Tryz.prog 230 #[nv] w (fun v w'=>v= .func (.func 251) #[] #[.pointer (some ⟨w.heap.size,0,Option.none⟩)]∧Ext w w'∧w'.heap.size=w.heap.size+1∧w'.heap[w.heap.size]? =some (.cells #[nv] 24 (0,0))):=by
 obtain⟨an,nn,cn,rfl⟩:=hn
 refine enter Tryz.func230 Tryz.ntmps230 rfl rfl ?_
 repeat refine c_r ?_
 refine rg0 ?_
 repeat refine c_r ?_
 refine zan ?_
 intro w1 hE1 hs1 hA
 refine rg0 ?_
 repeat refine c_r ?_
 refine rt0 Tryz.ntmps230 ?_
 exact⟨rfl,hE1,hs1,hA⟩
theorem row_lt{w:World}{nv:Value}{l:List Value}(h:Row w nv l)(h0:l≠ []):∀a m c,nv= .slice (some a) m c→a.block<w.heap.size:=by
 intro a m c hv
 obtain⟨a',c',e,hc,hg⟩:=h
 rw[hv]at e
 injection e with e1
 have h1:=hg 0 (List.length_pos_iff.2 h0)
 rw[←e1]at h1
 have:=zf7 (show w.cell? (a.add 0)=some _ from h1)
 rwa [zcj]at this
theorem NLen_ok(w:World)(nv:Value)(n:Nm)(hn:Row w nv (n.map vs))(hl:∀l∈n,l.length≤1000000000)(hnl:n.length≤1000000000):
  Fn Tryz.prog 203 #[nv] w (fun v w'=>v=vi (lenN n)∧Ext w w'):=by
 have hn0:=hn
 obtain⟨an,cn,hnv,_⟩:=id hn
 rw[hnv]
 refine enter Tryz.func203 Tryz.ntmps203 rfl rfl ?_
 repeat refine c_r ?_
 refine rg0 ?_
 repeat refine c_r ?_
 rw[←hnv]
 refine rq ?_;intro gd K hgd hK
 try simp only[go_sem]
 have hB3:=zat w (.cells #[vi 0] 3 (0,0))
 have hE4:=Ext.alloc w (.cells #[vi 0] 3 (0,0))
 have hs4:=zax w (.cells #[vi 0] 3 (0,0))
 revert hB3 hE4 hs4
 generalize w.alloc (.cells #[vi 0] 3 (0,0))=w1
 intro hB3 hE4 hs4
 refine zdc (P:=Tryz.prog) (t:=3) (j:=0) (l:=[vi 0]) hB3 (by simp) rfl rfl rfl ?_
 intro w2 hs2 hB2 hk2
 try simp only[go_sem]
 refine hK _ _ ?_;clear hK hgd;clear K;try clear gd
 simp only[List.set_cons_zero]at hB2
 have hE2:Ext w w2:=Keep.to_ext hE4 rfl (fun b hb=>by omega) hk2
 repeat refine c_r ?_
 refine rq ?_;intro gd K hgd hK
 try simp only[go_sem]
 refine Fn.mono (zmu ⟨_,_,_,hnv⟩) ?_
 rintro _ w3 ⟨rfl,hE3,hs3,hbn⟩
 try simp only[go_sem]
 refine hK _ _ ?_;clear hK hgd;clear K;try clear gd
 have hE23:=hE2.trans hE3
 have hB2':=hE3.at hB2
 have hn3:=hn.ext hE23
 have hlt:n≠ []→∀a m c,nv= .slice (some a) m c→a.block<w.heap.size:=fun hnn=>row_lt hn (by simpa using hnn)
 repeat refine c_r ?_
 refine zc5 (g:=251) (cap:=#[.pointer (some ⟨w2.heap.size,0,Option.none⟩)]) (vq0) rfl (labelsIt (C:=fun b=>b=w.heap.size) hbn hn3 (by omega) (fun h0 b hb _ a m c hv=>by have:=hlt h0 a m c hv;omega) (by omega) (fun h0 a m c hv=>by have:=hlt h0 a m c hv;omega)) (Keep.refl _ _) (Nat.le_refl _) (fun b hb=>by omega)
  (fun x A args h=>by rw[h];rfl)
  (fun pre A=>Ext w A∧A.heap[w.heap.size]? =some (.cells #[vi (1+(pre.map fun l=>1+l.length).sum:Nat)] 3 (0,0)))
  (fun _ _ _=>False) ?_ (fun _ _ _ _ h _=>h.elim) ?_ ?_ ?_ (fun _ _ _ _ _ _ _ h _=>h.elim)
 ·rintro pre A B ⟨h1,h2⟩ hk
  exact⟨Keep.to_ext h1 rfl (fun b hb=>by unfold two at hb;omega) hk,(hk.block _ (Array.getElem?_eq_some_iff.1 h2).1 (by unfold two;omega)).trans h2⟩
 ·exact⟨hE23,hB2'⟩
 ·rintro lp pre x suf A args hxs hszA ⟨hEA,hb⟩ rfl
  have hpl:pre.length+1≤n.length:=by
   have:=congrArg List.length hxs
   simp at this;omega
  have hpm:∀l∈pre,l.length≤1000000000:=fun l hl'=>hl l (List.mem_reverse.1 (by rw[hxs];simp[hl']))
  have hxm:x.length≤1000000000:=hl x (List.mem_reverse.1 (by rw[hxs];simp))
  have hsb:=zfD pre hpm
  have hsum:(((1+(pre.map fun l=>1+l.length).sum:Nat):Int))+(1+(x.length:Int))=((1+((pre++ [x]).map fun l=>1+l.length).sum:Nat):Int):=by
   rw[List.map_append,List.sum_append,List.map_cons,List.map_nil,List.sum_cons,List.sum_nil];omega
  have hs2':((1+(pre.map fun l=>1+l.length).sum:Nat):Int)≤2000000000000000000:=by omega
  refine rq ?_;intro gd K hgd hK
  try simp only[go_sem]
  refine hK _ _ ?_;clear hK hgd;clear K;try clear gd
  refine zaz ?_
  refine⟨rfl,KeepB.refl _ _ _,fun Y hY=>?_⟩
  have hbY:=(hY.block _ (by omega) (by unfold two;omega)).trans hb
  have hEY:Ext w Y:=Keep.to_ext hEA rfl (fun b hb=>by unfold two at hb;omega) hY
  have hsY:=hY.size
  have q0:zad Y (some ⟨w.heap.size,0,Option.none⟩)=some (vi (1+(pre.map fun l=>1+l.length).sum:Nat)):=zaa hbY rfl
  repeat refine c_r ?_
  refine rq ?_;intro gd K hgd hK
  try simp (disch:=first|omega|assumption|rfl) only[go_sem,q0,hsum]
  refine zdc (P:=Tryz.prog) (t:=3) (j:=0) (l:=[vi (1+(pre.map fun l=>1+l.length).sum:Nat)]) hbY (by simp) rfl rfl rfl ?_
  intro z hz hbz hkz
  try simp only[go_sem]
  refine hK _ _ ?_;clear hK hgd;clear K;try clear gd
  simp only[List.set_cons_zero]at hbz
  repeat refine c_r ?_
  exact⟨⟨Keep.to_ext hEY rfl (fun b hb=>by omega) hkz,hbz⟩,hkz.toB (by omega) (fun i _ h=>h)⟩
 ·intro A hszA ⟨hEA,hb⟩ hD
  have q0:zad A (some ⟨w.heap.size,0,Option.none⟩)=some (vi (1+(n.reverse.map fun l=>1+l.length).sum:Nat)):=zaa hb rfl
  have hrev:(n.reverse.map fun l=>1+l.length).sum=(n.map fun l=>1+l.length).sum:=by rw[List.map_reverse,List.sum_reverse]
  rw[hrev]at q0
  repeat refine c_r ?_
  refine rg1 q0 ?_
  repeat refine c_r ?_
  refine zfl (v:=vi (lenN n)) (.inr rfl) (by rfl) Tryz.ntmps203 (vr0) hD ?_
  intro Z hkZ hsZ
  exact⟨rfl,Keep.to_ext hEA rfl (fun b hb=>by omega) hkZ⟩
theorem zgO{n:Nm}{i:Nat}(hi:i<n.length)(h:∀j (h:j<n.length),j<i→errL n[j]=0)(he:errL n[i]≠0):zaL n=errL n[i]:=by
 unfold zaL
 have:n.find? (fun l=>decide (errL l≠0))=some n[i]:=by
  refine findL_at (pre:=n.take i) (suf:=n.drop (i+1)) (zbs hi) (fun y hy=>?_) (by simpa using he)
  obtain⟨j,hj,rfl⟩:=List.getElem_of_mem hy
  rw[List.getElem_take]
  simp at hj
  simpa using h j (by omega) (by omega)
 rw[this]
theorem zf0{n:Nm}(h:∀j (h:j<n.length),errL n[j]=0):zaL n=if 255<lenN n then 3 else 0:=by
 unfold zaL
 have:n.find? (fun l=>decide (errL l≠0))=Option.none:=zkT (fun y hy=>by
  obtain⟨j,hj,rfl⟩:=List.getElem_of_mem hy
  simpa using h j hj)
 rw[this]
theorem zc7(w:World)(nv:Value)(n:Nm)(hn:Row w nv (n.map vs))(hl:∀l∈n,l.length≤1000000000)(hnl:n.length≤1000000000):
  Fn Tryz.prog 20 #[nv] w (fun v w'=>v=vi (zaL n)∧Ext w w'):=by
 have hn0:=hn
 obtain⟨an,cn,rfl,hcn,hgn⟩:=hn
 simp only[List.length_map]at hcn hgn hn0
 rw[List.length_map]
 refine enter Tryz.func20 Tryz.ntmps20 rfl rfl ?_
 repeat refine c_r ?_
 refine rg0 ?_
 repeat refine c_r ?_
 refine rg0 ?_
 repeat refine c_r ?_
 refine zaD (fun m σ ds A=>ds=[]∧∃(i:Nat),i+m=n.length∧σ 3=vi i∧σ 0= .slice an n.length cn∧Ext w A∧∀j (h:j<n.length),j<i→errL n[j]=0) n.length ?_ ?_
 ·exact⟨rfl,0,by omega,vr0,vq0,Keep.refl _ _,fun j h hj=>absurd hj (by omega)⟩
 rintro m σ ds A ⟨rfl,i,him,h3,h0,hEA,hlow⟩
 repeat refine c_r ?_
 refine rg2 h3 h0 ?_
 repeat refine c_r ?_
 refine wc0 ?_ ?_
 ·intro hlt
  simp only[decide_eq_true_eq]at hlt
  have hi:i<n.length:=by omega
  have hi0:(0:Int)≤(i:Int):=by omega
  have hi1:(i:Int)<(n.length:Int):=by omega
  have hi1':(i:Int)+1=((i+1:Nat):Int):=by push_cast;rfl
  have hg:=zab hEA (hgn i (by simpa using hi))
  rw[List.getElem_map]at hg
  obtain⟨xn,rfl⟩:=Option.isSome_iff_exists.1 (zai hg)
  repeat refine c_r ?_
  refine rq ?_;intro gd K hgd hK
  try simp (disch:=first|omega|assumption|rfl) only[go_sem,h0,h3,hi0,hi1,hg]
  refine Fn.mono (zgv A n[i] (by have:=hl n[i] (List.getElem_mem hi);omega)) ?_
  rintro _ A1 ⟨rfl,hE1⟩
  try simp only[go_sem]
  refine hK _ _ ?_;clear hK hgd;clear K;try clear gd
  repeat refine c_r ?_
  refine rg0 ?_
  repeat refine c_r ?_
  refine wc0 ?_ ?_
  ·intro hne
   simp only[Bool.not_eq_true',decide_eq_false_iff_not]at hne
   repeat (first|refine c_r ?_|refine rg0 ?_)
   refine rt0 Tryz.ntmps20 ?_
   exact⟨by rw[zgO hi hlow hne],hEA.trans hE1⟩
  ·intro heq
   simp only[Bool.not_eq_false',decide_eq_true_eq]at heq
   repeat refine c_r ?_
   refine rg2 h3 hi1' ?_
   repeat refine c_r ?_
   refine⟨m - 1,by omega,rfl,i+1,by omega,vq0,(vq1 h0),hEA.trans hE1,fun j hj hji=>?_⟩
   by_cases hj2:j=i
   ·subst hj2;exact heq
   ·exact hlow j hj (by omega)
 ·intro hge
  simp only[decide_eq_false_iff_not]at hge
  have hgood:=zf0 (n:=n) (fun j hj=>hlow j hj (by omega))
  repeat refine c_r ?_
  refine rq ?_;intro gd K hgd hK
  try simp (disch:=first|omega|assumption|rfl) only[go_sem,h0]
  refine Fn.mono (RLen_ok A _ n (hn0.ext hEA) hl hnl) ?_
  rintro _ A1 ⟨rfl,hE1⟩
  try simp only[go_sem]
  refine hK _ _ ?_;clear hK hgd;clear K;try clear gd
  repeat refine c_r ?_
  refine wc0 ?_ ?_
  ·intro hb
   simp only[decide_eq_true_eq]at hb
   repeat (first|refine c_r ?_|refine rg0 ?_)
   refine rt0 Tryz.ntmps20 ?_
   exact⟨by rw[hgood,if_pos (by omega)],hEA.trans hE1⟩
  ·intro hb
   simp only[decide_eq_false_iff_not]at hb
   repeat (first|refine c_r ?_|refine rg0 ?_)
   refine rt0 Tryz.ntmps20 ?_
   exact⟨by rw[hgood,if_neg (by omega)],hEA.trans hE1⟩
theorem ziM(w:World)(nv:Value)(n:Nm)(hn:Row w nv (n.map vs))(hl:∀l∈n,l.length≤1000000000)(hnl:n.length≤1000000000):
  Fn Tryz.prog 177 #[nv] w (fun v w'=>v=vi (zaL n)∧Ext w w'):=by
 have hn0:=hn
 obtain⟨an,cn,rfl,hcn,hgn⟩:=hn
 simp only[List.length_map]at hcn hgn hn0
 rw[List.length_map]
 refine enter Tryz.func177 Tryz.ntmps177 rfl rfl ?_
 repeat refine c_r ?_
 refine rg0 ?_
 repeat refine c_r ?_
 refine rg0 ?_
 repeat refine c_r ?_
 refine zaD (fun m σ ds A=>ds=[]∧∃(i:Nat),i+m=n.length∧σ 8=vi i∧σ 7=vi n.length∧σ 6= .slice an n.length cn∧σ 0= .slice an n.length cn∧Ext w A∧∀j (h:j<n.length),j<i→errL n[j]=0) n.length ?_ ?_
 ·exact⟨rfl,0,by omega,vr0,vq0,vq0,vq0,Keep.refl _ _,fun j h hj=>absurd hj (by omega)⟩
 rintro m σ ds A ⟨rfl,i,him,h8,h7,h6,h0,hEA,hlow⟩
 repeat refine c_r ?_
 refine rg2 h8 h7 ?_
 repeat refine c_r ?_
 refine wc0 ?_ ?_
 ·intro hlt
  simp only[decide_eq_true_eq]at hlt
  have hi:i<n.length:=by omega
  have hi0:(0:Int)≤(i:Int):=by omega
  have hi1:(i:Int)<(n.length:Int):=by omega
  have hi1':(i:Int)+1=((i+1:Nat):Int):=by push_cast;rfl
  have hg:=zab hEA (hgn i (by simpa using hi))
  rw[List.getElem_map]at hg
  obtain⟨xn,rfl⟩:=Option.isSome_iff_exists.1 (zai hg)
  repeat refine c_r ?_
  refine rg5 h6 h8 hi0 hi1 hg ?_
  repeat refine c_r ?_
  refine rq ?_;intro gd K hgd hK
  try simp only[go_sem]
  refine Fn.mono (ziN A n[i] (by have:=hl n[i] (List.getElem_mem hi);omega)) ?_
  rintro _ A1 ⟨rfl,hE1⟩
  try simp only[go_sem]
  refine hK _ _ ?_;clear hK hgd;clear K;try clear gd
  repeat refine c_r ?_
  refine rg0 ?_
  repeat refine c_r ?_
  refine wc0 ?_ ?_
  ·intro hne
   simp only[Bool.not_eq_true',decide_eq_false_iff_not]at hne
   repeat (first|refine c_r ?_|refine rg0 ?_)
   refine rt0 Tryz.ntmps177 ?_
   exact⟨by rw[zgO hi hlow hne],hEA.trans hE1⟩
  ·intro heq
   simp only[Bool.not_eq_false',decide_eq_true_eq]at heq
   repeat refine c_r ?_
   refine rg2 h8 hi1' ?_
   repeat refine c_r ?_
   refine⟨m - 1,by omega,rfl,i+1,by omega,vq0,(vq1 h7),(vq1 h6),(vq1 h0),hEA.trans hE1,fun j hj hji=>?_⟩
   by_cases hj2:j=i
   ·subst hj2;exact heq
   ·exact hlow j hj (by omega)
 ·intro hge
  simp only[decide_eq_false_iff_not]at hge
  have hgood:=zf0 (n:=n) (fun j hj=>hlow j hj (by omega))
  repeat refine c_r ?_
  refine rq ?_;intro gd K hgd hK
  try simp (disch:=first|omega|assumption|rfl) only[go_sem,h0]
  refine Fn.mono (NLen_ok A _ n (hn0.ext hEA) hl hnl) ?_
  rintro _ A1 ⟨rfl,hE1⟩
  try simp only[go_sem]
  refine hK _ _ ?_;clear hK hgd;clear K;try clear gd
  repeat refine c_r ?_
  refine wc0 ?_ ?_
  ·intro hb
   simp only[decide_eq_true_eq]at hb
   repeat (first|refine c_r ?_|refine rg0 ?_)
   refine rt0 Tryz.ntmps177 ?_
   exact⟨by rw[hgood,if_pos (by omega)],hEA.trans hE1⟩
  ·intro hb
   simp only[decide_eq_false_iff_not]at hb
   repeat (first|refine c_r ?_|refine rg0 ?_)
   refine rt0 Tryz.ntmps177 ?_
   exact⟨by rw[hgood,if_neg (by omega)],hEA.trans hE1⟩
def zdb(R:List RecL)(i:Nat):Bool:=decide (i=0)||!decide ((R[i]?.map RecL.owner)=(R[i - 1]?.map RecL.owner))
def zbF(R:List RecL):List (Nat×Bool):=(List.range R.length).map fun i=>(i,zdb R i)
theorem zdF(R:List RecL):(zbF R).length=R.length:=by simp[zbF]
theorem zdG{R:List RecL}{i:Nat}(h:i<(zbF R).length):(zbF R)[i]=(i,zdb R i):=by simp[zbF]
def encF(w0:World)(R:List RecL)(x:Nat×Bool)(_:World)(args:Array Value):Prop:=∃cs r,R[x.1]? =some r∧RecAt w0 cs r∧args=#[.agg cs.toArray,.bool x.2]
theorem Fresh_ok(w:World)(a:Option Addr)(n c:Nat):Fn Tryz.prog 28 #[.slice a n c] w (fun u w'=>u= .func (.func 54) #[] #[.pointer (some ⟨w.heap.size,0,Option.none⟩)]∧Ext w w'∧w'.heap.size=w.heap.size+1∧w'.heap[w.heap.size]? =some (.cells #[.slice a n c] 22 (0,0))):=by
 refine enter Tryz.func28 Tryz.ntmps28 rfl rfl ?_
 repeat refine c_r ?_
 refine rg0 ?_
 repeat refine c_r ?_
 refine zan ?_
 intro w1 hE1 hs1 hA
 refine go trivial ?_
 refine rt0 Tryz.ntmps28 ?_
 exact⟨rfl,hE1,hs1,hA⟩
theorem zfH{w:World}{v:Value}{ps:List Lab}(h:Row w v (ps.map vs)):∃a c,v= .slice a ps.length c∧∀i (hi:i<ps.length),∃x,a=some x∧zad w (adr (some x) i)=some (vs ps[i]):=by
 obtain⟨a,c,rfl,_,hg⟩:=h
 refine⟨a,c,by rw[List.length_map],fun i hi=>?_⟩
 have g:=hg i (by rw[List.length_map];exact hi)
 rw[List.getElem_map]at g
 obtain⟨x,rfl⟩:=Option.isSome_iff_exists.1 (zai g)
 exact⟨x,rfl,g⟩
theorem zli{w:World}{av bv:Value}{p q:Nm}(ha:Row w av (p.map vs))(hb:Row w bv (q.map vs))(hp:p.length≤1000000000)(hq:q.length≤1000000000):
  Fn Tryz.prog 55 #[av,bv] w (fun v w'=>v= .bool (decide (p=q))∧Ext w w'):=by
 obtain⟨a,c,rfl,hga⟩:=zfH ha
 obtain⟨b,d,rfl,hgb⟩:=zfH hb
 refine enter Tryz.func55 Tryz.ntmps55 rfl rfl ?_
 by_cases hlen:p.length=q.length
 rotate_left
 ·have h1:decide ((p.length:Int)=(q.length:Int))=false:=decide_eq_false (by omega)
  refine go h1 ?_
  refine rt0 Tryz.ntmps55 ?_
  exact⟨by rw[decide_eq_false fun h=>hlen (by rw[h])],Keep.refl _ _⟩
 have h1:decide ((p.length:Int)=(q.length:Int))=true:=decide_eq_true (by omega)
 refine go h1 ?_
 refine zbq p.length (fun i σ v=>(σ 13=vi i∧σ 12=vi p.length∧σ 0= .slice a p.length c∧σ 1= .slice b q.length d)∧Ext w v∧p.take i=q.take i) ?_ ?_ ?_
 ·exact⟨⟨vr0,vr0,vq0,vq0⟩,Keep.refl _ _,rfl⟩
 ·rintro i σ v hi r ⟨s,hE,ht⟩
  obtain⟨x1,rfl,g1⟩:=hga i hi
  obtain⟨x2,rfl,g2⟩:=hgb i (by omega)
  have hi2:(i:Int)<(q.length:Int):=by omega
  refine go (an2 s r) ?_
  obtain⟨t,htt⟩:∃t,decide (p[i]=q[i])=t:=⟨_,rfl⟩
  refine zas (Q:=fun e σ' ds' v'=>e= .normal∧ds'=[]∧(σ' 13=vi i∧σ' 12=vi p.length∧σ' 0= .slice (some x1) p.length c∧σ' 1= .slice (some x2) q.length d)∧Ext v v'∧σ' 24= .bool (!t)) ?_ ?_
  ·refine zaF (fun _=>false) [(0,true),(1,true),(2,true),(3,true),(4,true),(5,true),(6,true),(7,true),(8,true)] NoS mixed (by kernel_rfl) ?_;intro gd K x hgd hx hxe hK;clear hxe
   have e1:=zab (hE.trans hx) g1
   have e2:=zab (hE.trans hx) g2
   simp (disch:=first|omega|assumption|rfl) only[go_sem,s,r,hi2,e1,e2,htt]
   refine hK _ _ ?_;clear hK hgd;clear K;try clear gd
   exact⟨rfl,rfl,sc s,hx,vr0⟩
  clear s
  rintro _ σ1 _ v1 ⟨rfl,rfl,s,hv1,s25⟩
  cases t with
  |true=>
   refine go (an3 s r s25) ?_
   refine⟨rfl,sc (an2 s r),hE.trans hv1,?_⟩
   rw[zak hi,zak (by omega),ht,of_decide_eq_true htt]
  |false=>
   refine go (an2 s s25) ?_
   refine rt0 Tryz.ntmps55 ?_
   exact⟨by rw[decide_eq_false fun h=>(of_decide_eq_false htt) (by subst h;rfl)],hE.trans hv1⟩
 ·rintro σ v r ⟨s,hE,ht⟩
  refine go (an2 s r) ?_
  refine rt0 Tryz.ntmps55 ?_
  rw[List.take_length,hlen,List.take_length]at ht
  exact⟨by rw[decide_eq_true ht],hE⟩
theorem freshIt{w0 W0:World}{n0:Nat}{C:Nat→Prop}{b:Nat}{T:TypeId}{fr:Nat×Nat}{v:Value}{R:List RecL}(hE0:Ext w0 W0)(hR:Rows 7 (RecAt w0) w0 v R)(hb:W0.heap[b]? =some (.cells #[v] T fr))(hbn:b<n0)(hbC:¬C b)(hC:∀b,C b→w0.heap.size≤b)(hn0:w0.heap.size≤n0)(hl:R.length≤100000)(hrl:∀r∈R,r.owner.length≤1000000):
  Iter Tryz.prog 54 #[.pointer (some ⟨b,0,Option.none⟩)] W0 n0 C (zbF R) (encF w0 R):=by
 intro lp J Jx W hW hnW hJ hJx hY h0
 obtain⟨a,c,rfl,hc,hg⟩:=hR.open
 have cell1:∀{v:World},KeepB n0 C W v→zad v (some ⟨b,0,Option.none⟩)=some (.slice a R.length c):=fun hk=>zbJ hk hbn hbC (zaa (hW.at hb) rfl)
 -- what lay in w0 is kept
 have hEW:=hE0.trans hW
 have old:∀{v:World},KeepB n0 C W v→Ext w0 v:=fun {v} hk=>
  ⟨hk.os.trans hEW.os,hk.tape.trans hEW.tape,hk.output.trans hEW.output,Nat.le_trans hEW.size hk.size,fun b hb _=>(hk.block b (by omega) (fun h=>by have:=hC b h;omega)).trans (hEW.block b hb (fun h=>h)),Nat.le_trans hEW.drawn hk.drawn⟩
 refine enter Tryz.func54 Tryz.ntmps54 rfl rfl ?_
 have c0:=cell1 (KeepB.refl n0 C W)
 refine go c0 ?_
 refine zaD (fun m σ ds v=>ds=[]∧∃i,i+m=R.length∧σ 0= .func (.yield lp) #[] #[]∧σ 1= .pointer (some ⟨b,0,Option.none⟩)∧σ 5= .slice a R.length c∧σ 6=vi R.length∧σ 7=vi i∧J ((zbF R).take i) v∧KeepB n0 C W v) R.length ?_ ?_
 ·exact⟨rfl,0,by omega,vr0,vr0,vr0,vr0,vr0,by simpa using h0,KeepB.refl _ _ _⟩
 rintro m σ ds v ⟨rfl,i,him,f0,f1,s5,s6,s7,hj,hK⟩
 by_cases hi:i<R.length
 rotate_left
 ·have d1:decide ((i:Int)<(R.length:Int))=false:=decide_eq_false (by omega)
  refine go (an6 f0 f1 s5 s6 s7 d1) ?_
  refine zaw (by simp) rfl (.inl ?_)
  rw[List.take_of_length_le (by rw[zdF];omega)]at hj
  exact hj
 have d1:decide ((i:Int)<(R.length:Int))=true:=decide_eq_true (by omega)
 have hif:i<(zbF R).length:=by rw[zdF];exact hi
 obtain⟨cs,g0,hcs⟩:=hg i hi
 have g:=zah (old hK) g0
 obtain⟨r,hr⟩:∃r,R[i]=r:=⟨_,rfl⟩
 rw[hr]at hcs
 obtain⟨xa,rfl⟩:=Option.isSome_iff_exists.1 (zav g)
 obtain⟨xi,hxi⟩:∃xi,adr (some xa) (i*7)=some xi:=⟨_,rfl⟩
 rw[hxi]at g
 have hi0:(0:Int)≤(i:Int):=by omega
 have hi1:(i:Int)<(R.length:Int):=by omega
 have hi2:(i:Int)+1=((i+1:Nat):Int):=by push_cast;rfl
 have hc7:=hcs.len
 refine go (an6 f0 f1 s5 s6 s7 d1) ?_
 refine rq ?_;intro gd K hgd hK
 try simp (disch:=first|omega|assumption|rfl) only[go_sem,s5,s7,hi0,hi1,hxi,g]
 refine zbm (P:=Tryz.prog) (l:=cs) (by rw[hc7];rfl) hcs.ones (by rw[hc7];rfl) rfl ?_
 intro v1 hEv1 hsv1 hBv
 try simp only[go_sem]
 refine hK _ _ ?_;clear hK hgd;clear K;try clear gd
 have q:=zal (n:=7) hBv hc7.symm
 have hKv1:KeepB n0 C W v1:=hK.trans (hEv1.toB (by have:=hK.size;omega) (fun _ _ h=>h.elim))
 refine zaz ?_
 by_cases hz:i=0
 ·have dz:decide ((i:Int)=0)=true:=decide_eq_true (by omega)
  repeat refine c_r ?_
  refine zaF (fun i=>i==16) [(0,true),(1,true),(2,true),(3,true),(4,true),(5,true),(6,true),(7,true),(8,true),(9,true),(10,true),(11,true),(12,true),(13,false),(14,true),(15,true),(16,false),(17,true)] NoS mixed (by kernel_rfl) ?_;intro gd K x hgd hx hxe hK;have hx0:=zaT hxe;clear hxe
  have hg4:∀n σ b,zaE gd n σ (some (4,b))=zap (ev n σ (.tmp 16)) b:=(fun n σ b=>by rw[zag,show gd 4=some 16 from(by rw[hgd];rfl)];rfl)
  have qx:=zah hx0 q
  simp (disch:=first|omega|assumption|rfl) only[go_sem,f0,f1,qx,dz,↓hg4]
  have hfb:zdb R i=true:=by rw[hz];rfl
  have hKx:KeepB n0 C W x:=hKv1.trans (hx0.toB (by have:=hKv1.size;omega) (fun _ _ h=>h.elim))
  refine Yld.mono (hY ((zbF R).take i) (zbF R)[i] ((zbF R).drop (i+1)) x _ (zbs hif) (hJ _ _ _ hj (hEv1.trans hx0)) hKx ⟨cs,r,by rw[zdG];simp only;rw[List.getElem?_eq_getElem hi,hr],hcs,by rw[zdG,hfb]⟩) ?_
  rintro u y (⟨rfl,hj',hk'⟩| ⟨rfl,hjx⟩)
  ·refine⟨.inl rfl,?_⟩
   simp (disch:=first|omega|assumption|rfl) only[go_sem,↓hg4]
   refine hK _ _ ?_;clear hK hgd;clear K;try clear gd
   refine go (an7 f0 f1 s5 s6 s7 hi2 d1) ?_
   refine⟨m - 1,by omega,rfl,i+1,by omega,(vq1 f0),(vq1 f1),(vq1 s5),(vq1 s6),(vq1 hi2),?_,hKx.trans hk'⟩
   rw[zak hif];exact hj'
  ·refine⟨.inl rfl,?_⟩
   simp (disch:=first|omega|assumption|rfl) only[go_sem,↓hg4]
   refine hK _ _ ?_;clear hK hgd;clear K;try clear gd
   refine go trivial ?_
   exact zaw (by simp) rfl (.inr ⟨_,_,_,zbs hif,hjx⟩)
 have dz:decide ((i:Int)=0)=false:=decide_eq_false (by omega)
 obtain⟨cs',g0',hcs'⟩:=hg (i - 1) (by omega)
 obtain⟨r',hr'⟩:∃r',R[i - 1]'(by omega)=r':=⟨_,rfl⟩
 rw[hr']at hcs'
 have g':=zah ((old hK).trans hEv1) g0'
 obtain⟨ow,ds,hce,how,_⟩:=hcs.ex
 obtain⟨ow',ds',hce',how',_⟩:=hcs'.ex
 obtain⟨xj,hxj⟩:∃xj,adr (some xa) ((i - 1)*7)=some xj:=⟨_,rfl⟩
 rw[hxj]at g'
 have ej:(i:Int) - 1=((i - 1:Nat):Int):=by omega
 have j0:(0:Int)≤((i - 1:Nat):Int):=by omega
 have j1:((i - 1:Nat):Int)<(R.length:Int):=by omega
 have o0:zad v1 (some ⟨v.heap.size,0,Option.none⟩)=some ow:=za2 (l:=cs) (j:=0) hBv (by rw[hce];rfl)
 have o1:zad v1 (some xj)=some ow':=by
  subst hce'
  have:zad v1 (adr (some xj) 0)=some ow':=zaN g' (j:=0) (by simp)
  rwa [zam]at this
 have cv:=cell1 hKv1
 repeat refine c_r ?_
 refine zaF (fun i=>i==16) [(0,true),(1,true),(2,true),(3,true),(4,true),(5,true),(6,true),(7,true),(8,true),(9,true),(10,true),(11,true),(12,true),(13,false),(14,true),(15,true),(16,false),(17,true)] NoS mixed (by kernel_rfl) ?_;intro gd K x hgd hx hxe hK;have hx0:=zaT hxe;clear hxe
 have hg4:∀n σ b,zaE gd n σ (some (4,b))=zap (ev n σ (.tmp 16)) b:=(fun n σ b=>by rw[zag,show gd 4=some 16 from(by rw[hgd];rfl)];rfl)
 have qx:=zah hx0 q
 have o0x:=zab hx0 o0
 have o1x:=zab hx0 o1
 have cvx:=zab hx0 cv
 simp (disch:=first|omega|assumption|rfl) only[go_sem,f0,f1,qx,dz,o0x,o1x,cvx,ej,j0,j1,hxj,zam,Nat.zero_add,↓hg4]
 refine Fn.mono (zli (how.ext ((old hKv1).trans hx0)) (how'.ext ((old hKv1).trans hx0)) (by have:=hrl r (hr▸List.getElem_mem hi);omega) (by have:=hrl r' (hr'▸List.getElem_mem (by omega));omega)) ?_
 rintro _ y0 ⟨rfl,hy0⟩
 refine⟨.inr hy0.keep,?_⟩
 have hxy:=hx0.trans hy0
 have hfb:zdb R i=!decide (r.owner=r'.owner):=by
  unfold zdb
  rw[decide_eq_false hz,Bool.false_or,List.getElem?_eq_getElem hi,List.getElem?_eq_getElem (show i - 1<R.length by omega),hr,hr']
  simp
 simp (disch:=first|omega|assumption|rfl) only[go_sem,↓hg4]
 have hKx:KeepB n0 C W y0:=hKv1.trans (hxy.toB (by have:=hKv1.size;omega) (fun _ _ h=>h.elim))
 refine Yld.mono (hY ((zbF R).take i) (zbF R)[i] ((zbF R).drop (i+1)) y0 _ (zbs hif) (hJ _ _ _ hj (hEv1.trans hxy)) hKx ⟨cs,r,by rw[zdG];simp only;rw[List.getElem?_eq_getElem hi,hr],hcs,by rw[zdG,hfb]⟩) ?_
 rintro u y (⟨rfl,hj',hk'⟩| ⟨rfl,hjx⟩)
 ·refine⟨.inl rfl,?_⟩
  simp (disch:=first|omega|assumption|rfl) only[go_sem,↓hg4]
  refine hK _ _ ?_;clear hK hgd;clear K;try clear gd
  refine go (an7 f0 f1 s5 s6 s7 hi2 d1) ?_
  refine⟨m - 1,by omega,rfl,i+1,by omega,(vq1 f0),(vq1 f1),(vq1 s5),(vq1 s6),(vq1 hi2),?_,hKx.trans hk'⟩
  rw[zak hif];exact hj'
 ·refine⟨.inl rfl,?_⟩
  simp (disch:=first|omega|assumption|rfl) only[go_sem,↓hg4]
  refine hK _ _ ?_;clear hK hgd;clear K;try clear gd
  refine go trivial ?_
  exact zaw (by simp) rfl (.inr ⟨_,_,_,zbs hif,hjx⟩)
theorem lab_len(p:Lab):(labD p).1.length≤p.length:=by
 have:=zgw [46] 0 p []
 unfold labD
 split
 ·simpa using this
 ·simp
theorem zi4(f:Bool)(p:Lab)(l:List Lab)(out:Nm):zcf f (p::l) out=if p=[]∧f=false∧l=[] then(out,true,0) else if (labD p).2=0 then zcf false l (out++ [(labD p).1]) else([],false,(labD p).2):=by rw[zcf]
theorem parts_ok(w:World)(s:Lab)(hl:s.length≤1000000000):Fn Tryz.prog 176 #[vs s] w (fun v w'=>Ext w w'∧∃sv,v= .tuple #[sv,.bool (zbz s).2.1,vi (zbz s).2.2]∧Own w.heap.size w' 9 sv ((zbz s).1.map vs)∧(zbz s).1.length≤s.length+1∧∀x∈(zbz s).1,x.length≤s.length):=by
 have hsl:=zfE s false []
 refine enter Tryz.func176 Tryz.ntmps176 rfl rfl ?_
 refine go trivial ?_
 refine rc trivial (znt w s hl) ?_
 rintro _ w1 ⟨hE1,hv⟩
 unfold zbz
 rcases hv with ⟨h1,rfl⟩| ⟨h1,pv,rfl,hrow⟩
 ·rw[if_pos h1]
  refine rgo trivial ?_
  refine zaf (.inr rfl) Tryz.ntmps176 rfl (zac (vr0) (zac (vr0) (zac (vr0) zae))) ?_
  exact⟨hE1,_,rfl,Own.nil _ _ _,by simp,by simp⟩
 rw[h1,if_neg (by decide)]
 obtain⟨ps,hps⟩:∃ps,(splD false [] s).1=ps:=⟨_,rfl⟩
 rw[hps]at hrow hsl ⊢
 rw[List.length_nil]at hsl
 obtain⟨a,c,rfl,hg⟩:=zfH hrow
 refine rgo trivial ?_
 refine rq ?_;intro gd K hgd hK
 try simp only[go_sem]
 refine zkf (z:=vs []) rfl rfl rfl rfl ?_
 intro w2 hE2 hs2 hown2
 try simp only[go_sem]
 refine hK _ _ ?_;clear hK hgd;clear K;try clear gd
 have hs1:=hE1.size
 have hE12:=hE1.trans hE2
 refine go trivial ?_
 refine zbq ps.length (fun i σ v=>(σ 5= .slice a ps.length c∧σ 21= .slice a ps.length c∧σ 22=vi ps.length∧σ 23=vi i)∧Ext w v∧Ext w1 v∧∃sv out,σ 7=sv∧Own w1.heap.size v 9 sv (out.map vs)∧out.length≤i∧(∀x∈out,x.length≤s.length)∧zcf true ps []=zcf (decide (i=0)) (ps.drop i) out) ?_ ?_ ?_
 ·exact⟨⟨vr0,vr0,vr0,vr0⟩,hE12,hE2,_,[],vr0,hown2,Nat.le_refl _,(fun x h=>by cases h),rfl⟩
 ·rintro i σ v hi r ⟨⟨s5,s21,s22,s23⟩,hE,hEv,sv,out,s7,hown,hol,hox,hpd⟩
  obtain⟨x,rfl,g0⟩:=hg i hi
  have g:=zab hEv g0
  obtain⟨p,hp⟩:∃p,ps[i]=p:=⟨_,rfl⟩
  have hpl:p.length≤s.length:=by have:=hsl.2 p (hp▸List.getElem_mem hi);omega
  rw[hp]at g
  rw[List.drop_eq_getElem_cons hi,hp,zi4]at hpd
  have hi0:(0:Int)≤(i:Int):=by omega
  have hi1:(i:Int)<(ps.length:Int):=by omega
  have hi2:(i:Int)+1=((i+1:Nat):Int):=by push_cast;rfl
  refine go (an8 s5 s21 s22 s23 s7 r g (an2 hi0 hi1)) ?_
  refine zas (Q:=fun e σ' ds' v'=>e= .normal∧ds'=[]∧v=v'∧(σ' 5= .slice (some x) ps.length c∧σ' 21= .slice (some x) ps.length c∧σ' 22=vi ps.length∧σ' 23=vi i∧σ' 7=sv∧σ' 9=vs p)∧σ' 40= .bool (decide (p=[]∧decide (i=0)=false∧ps.drop (i+1)=[]))) ?_ ?_
  ·by_cases c1:p=[]
   ·have d1:decide (p=[])=true:=decide_eq_true c1
    by_cases c2:i=0
    ·have d2:decide ((0:Int)<(i:Int))=false:=decide_eq_false (by omega)
     rw[show decide (p=[]∧decide (i=0)=false∧ps.drop (i+1)=[])=false from decide_eq_false fun h=>by have:=of_decide_eq_false h.2.1;omega]
     refine rgg [(2,30),(6,34)] (an7 s5 s21 s22 s23 s7 d1 d2) ?_
     exact⟨rfl,rfl,rfl,⟨(vq1 s5),(vq1 s21),(vq1 s22),(vq1 s23),(vq1 s7),vr0⟩,vr0⟩
    ·have d2:decide ((0:Int)<(i:Int))=true:=decide_eq_true (by omega)
     obtain⟨t,ht⟩:∃t,decide ((i:Int)=(ps.length:Int) - 1)=t:=⟨_,rfl⟩
     rw[show decide (p=[]∧decide (i=0)=false∧ps.drop (i+1)=[])=t from by
      rw[←ht]
      refine decide_eq_decide.2 ⟨fun h=>?_,fun h=>⟨c1,decide_eq_false c2,List.drop_of_length_le (by omega)⟩⟩
      have:=congrArg List.length h.2.2
      rw[List.length_drop,List.length_nil]at this
      omega]
     refine rgg [(2,30),(6,34)] (an8 s5 s21 s22 s23 s7 d1 d2 ht) ?_
     exact⟨rfl,rfl,rfl,⟨(vq1 s5),(vq1 s21),(vq1 s22),(vq1 s23),(vq1 s7),vr0⟩,vr0⟩
   ·have d1:decide (p=[])=false:=decide_eq_false c1
    rw[show decide (p=[]∧decide (i=0)=false∧ps.drop (i+1)=[])=false from decide_eq_false fun h=>c1 h.1]
    refine rgg [(2,30),(6,34)] (an6 s5 s21 s22 s23 s7 d1) ?_
    exact⟨rfl,rfl,rfl,⟨(vq1 s5),(vq1 s21),(vq1 s22),(vq1 s23),(vq1 s7),vr0⟩,vr0⟩
  rintro _ σ1 _ v1 ⟨rfl,rfl,hv1,⟨g5,g21,g22,g23,g7,g9⟩,g40⟩
  subst hv1
  by_cases hend:p=[]∧decide (i=0)=false∧ps.drop (i+1)=[]
  ·rw[if_pos hend]at hpd
   rw[decide_eq_true hend]at g40
   refine go (an2 g7 g40) ?_
   refine zaf (.inr rfl) Tryz.ntmps176 rfl (zac ((vr1 g7)) (zac (vr0) (zac (vr0) zae))) ?_
   rw[hpd]
   exact⟨hE,_,rfl,hown.mono hs1,by simp only;omega,hox⟩
  rw[if_neg hend]at hpd
  rw[decide_eq_false hend]at g40
  refine go (an2 g9 g40) ?_
  refine rc g9 (znu v p (by omega)) ?_
  rintro _ v2 ⟨rfl,hE2'⟩
  by_cases he:(labD p).2=0
  ·have d3:decide ((labD p).2=0)=true:=decide_eq_true he
   rw[if_pos he]at hpd
   refine rgo d3 ?_
   have hsv:=hE.size
   have hsv1:=hEv.size
   have hsv2:=hE2'.size
   refine rq ?_;intro gd K hgd hK
   try simp (disch:=first|omega|assumption|rfl) only[go_sem,g7]
   refine zbk (z:=vs []) rfl rfl rfl rfl rfl ?_
   intro y1 hy1 hys1 hyo
   try simp (disch:=first|omega|assumption|rfl) only[go_sem,g7]
   have hxy:=hE2'.trans hy1
   have hsy:=hy1.size
   refine za8 (e:=9) (hown.ext hxy) hyo.row rfl rfl rfl rfl rfl rfl ((vr1 g7)) (vr0) (fun q hq=>by simp at hq;subst hq;rfl) (by simp;omega) (by decide) (by omega) ?_
   intro sv' y2 hown2' hX2 hK2 hb2
   try simp only[go_sem]
   refine hK _ _ ?_;clear hK hgd;clear K;try clear gd
   refine go (an5 g5 g21 g22 g23 hi2) ?_
   refine⟨rfl,⟨(vq1 g5),(vq1 g21),(vq1 g22),(vq1 hi2)⟩,hX2 w (hE.trans hxy) (by omega),hX2 w1 (hEv.trans hxy) (Nat.le_refl _),sv',out++ [(labD p).1],vr0,by rw[List.map_append];exact hown2',by simp;omega,fun y hy=>?_,?_⟩
   ·rcases List.mem_append.1 hy with hy|hy
    ·exact hox y hy
    ·rw[List.mem_singleton.1 hy];have:=lab_len p;omega
   ·rw[hpd,show decide (i+1=0)=false from rfl]
  ·have d3:decide ((labD p).2=0)=false:=decide_eq_false he
   rw[if_neg he]at hpd
   refine rgo d3 ?_
   refine zaf (.inr rfl) Tryz.ntmps176 rfl (zac (vr0) (zac (vr0) (zac (vr0) zae))) ?_
   rw[hpd]
   exact⟨hE.trans hE2',_,rfl,Own.nil _ _ _,by simp,by simp⟩
 ·rintro σ v r ⟨⟨s5,s21,s22,s23⟩,hE,hEv,sv,out,s7,hown,hol,hox,hpd⟩
  rw[List.drop_length,zcf]at hpd
  refine go (an6 s5 s21 s22 s23 s7 r) ?_
  refine zaf (.inr rfl) Tryz.ntmps176 rfl (zac ((vr1 s7)) (zac (vr0) (zac (vr0) zae))) ?_
  rw[hpd]
  exact⟨hE,_,rfl,hown.mono hs1,by simp only;omega,hox⟩
theorem zkr{w:World}{v:Value}{l:List Value}(hr:Row w v l):Fn Tryz.prog 174 #[v] w (fun u w'=>Row w' u l∧Ext w w'∧∀x n k,u= .slice x n k→∃n' k',v= .slice x n' k'):=by
 obtain⟨a,c,rfl,hc,hl⟩:=hr
 refine enter Tryz.func174 Tryz.ntmps174 rfl rfl ?_
 repeat refine c_r ?_
 refine rg0 ?_
 repeat refine c_r ?_
 refine rq ?_;intro gd K hgd hK
 try simp only[go_sem]
 have hcl:slD Tryz.prog (some (TypeDesc.slice 9)) (Value.slice a l.length c) Option.none (some (Value.int IntKind.i64 ↑l.length)) (some (Value.int IntKind.i64 ↑l.length))=some (.slice a l.length l.length):=zlM hc (by rfl)
 rw[hcl]
 try simp only[go_sem]
 refine hK _ _ ?_;clear hK hgd;clear K;try clear gd
 repeat refine c_r ?_
 refine rt0 Tryz.ntmps174 ?_
 exact⟨⟨a,l.length,rfl,Nat.le_refl _,hl⟩,Keep.refl _ _,fun x n k h=>by cases h;exact⟨_,_,rfl⟩⟩
theorem zcM(w:World)(s:Lab)(ov:Value)(o:Nm)(hl:s.length≤500000000)(ho:Row w ov (o.map vs))(hoT:NmT o):Fn Tryz.prog 155 #[vs s,ov] w (fun v w'=>Ext w w'∧∃nv,v= .tuple #[nv,vi (za6 s o).2]∧Row w' nv ((za6 s o).1.map vs)∧BlkB w.heap.size w' nv):=by
 have none_blk:∀z:World,BlkB w.heap.size z (.slice Option.none 0 0):=fun z a n c h=>by cases h
 have ho2:=hoT.2
 refine enter Tryz.func155 Tryz.ntmps155 rfl rfl ?_
 refine go trivial ?_
 unfold za6
 by_cases h1:s=[64]
 ·have d1:decide (s=[64])=true:=decide_eq_true h1
  rw[if_pos h1]
  refine go d1 ?_
  refine rc trivial (znB ho (by omega)) ?_
  rintro cv w1 ⟨hown,hE1⟩
  refine rd trivial (zkr hown.row) ?_
  rintro uv w2 ⟨hrow,hE2,hcl⟩
  refine rgo trivial ?_
  refine zaf (.inr rfl) Tryz.ntmps155 rfl (zac (vr0) (zac (vr0) zae)) ?_
  refine⟨hE1.trans hE2,_,rfl,hrow,fun a n c hv=>?_⟩
  obtain⟨n',k',hv'⟩:=hcl _ _ _ hv
  have h1:=hown.ge (b:=a.block) (by rw[hv'];rfl)
  exact⟨h1.1,by have:=hE2.size;omega⟩
 have d1:decide (s=[64])=false:=decide_eq_false h1
 rw[if_neg h1]
 by_cases h2:s=[46]
 ·have d2:decide (s=[46])=true:=decide_eq_true h2
  rw[if_pos h2]
  refine go (an2 d1 d2) ?_
  refine rq ?_;intro gd K hgd hK
  try simp only[go_sem]
  refine zkf (z:=vs []) rfl rfl rfl rfl ?_
  intro w2 hE2 hs2 hown2
  try simp only[go_sem]
  refine hK _ _ ?_;clear hK hgd;clear K;try clear gd
  refine go trivial ?_
  refine zaf (.inr rfl) Tryz.ntmps155 rfl (zac (vr0) (zac (vr0) zae)) ?_
  exact⟨hE2,_,rfl,hown2.row,hown2.blk⟩
 have d2:decide (s=[46])=false:=decide_eq_false h2
 rw[if_neg h2]
 by_cases h3:s=[]
 ·have d3:decide (s=[])=true:=decide_eq_true h3
  rw[if_pos h3]
  refine go (an3 d1 d2 d3) ?_
  refine zaf (.inr rfl) Tryz.ntmps155 rfl (zac (vr0) (zac (vr0) zae)) ?_
  exact⟨Keep.refl _ _,_,rfl,(Own.nil 0 _ 0).row,none_blk _⟩
 have d3:decide (s=[])=false:=decide_eq_false h3
 rw[if_neg h3]
 refine go (an3 d1 d2 d3) ?_
 refine rc trivial (parts_ok w s (by omega)) ?_
 rintro _ w1 ⟨hE1,sv,rfl,hown,hpl,hpx⟩
 obtain⟨⟨n,wh,e⟩,hq⟩:∃q,zbz s=q:=⟨_,rfl⟩
 rw[hq]at hown hpl hpx ⊢
 simp only at hown hpl hpx ⊢
 have hs1:=hE1.size
 by_cases he:e=0
 rotate_left
 ·have d4:decide (e=0)=false:=decide_eq_false he
  rw[if_neg he]
  refine rgo d4 ?_
  refine zaf (.inr rfl) Tryz.ntmps155 rfl (zac (vr0) (zac (vr0) zae)) ?_
  exact⟨hE1,_,rfl,(Own.nil 0 _ 0).row,none_blk _⟩
 have d4:decide (e=0)=true:=decide_eq_true he
 rw[if_pos he]
 refine rgo d4 ?_
 refine zas (Q:=fun e' σ' ds' v'=>e'= .normal∧ds'=[]∧Ext w v'∧∃nv,σ' 6=nv∧Row v' nv ((n++if wh=true then [] else o).map vs)∧BlkB w.heap.size v' nv) ?_ ?_
 ·cases wh with
  |true=>
   refine go trivial ?_
   rw[if_pos rfl,List.append_nil]
   exact⟨rfl,rfl,hE1,_,vr0,hown.row,hown.blk⟩
  |false=>
   refine go trivial ?_
   rw[if_neg (by decide),List.map_append]
   refine rq ?_;intro gd K hgd hK
   try simp only[go_sem]
   refine za8 (e:=9) hown (ho.ext hE1) rfl rfl rfl rfl rfl rfl (vr0) (vr0) (fun q hq=>by obtain⟨_,_,rfl⟩:=List.mem_map.1 hq;rfl) (by simp;omega) (by decide) (by omega) ?_
   intro sv' y2 hown2' hX2 hK2 hb2
   try simp only[go_sem]
   refine hK _ _ ?_;clear hK hgd;clear K;try clear gd
   refine go trivial ?_
   exact⟨rfl,rfl,hX2 w hE1 (Nat.le_refl _),_,vr0,hown2'.row,hown2'.blk⟩
 rintro _ σ1 _ w2 ⟨rfl,rfl,hE2,nv,g6,hrow,hblk⟩
 obtain⟨m,hm⟩:∃m,(n++if wh=true then [] else o)=m:=⟨_,rfl⟩
 have hml:m.length≤1000000000∧∀l∈m,l.length≤1000000000:=by
  rw[←hm]
  cases wh with
  |true=>rw[if_pos rfl,List.append_nil];exact⟨by omega,fun l hl=>by have:=hpx l hl;omega⟩
  |false=>
   rw[if_neg (by decide),List.length_append]
   refine⟨by omega,fun l hl=>?_⟩
   rcases List.mem_append.1 hl with hl|hl
   ·have:=hpx l hl;omega
   ·have:=hoT.1 l hl;omega
 rw[hm]at hrow ⊢
 refine go g6 ?_
 refine rc g6 (ziM w2 nv m hrow hml.2 hml.1) ?_
 rintro _ w3 ⟨rfl,hE3⟩
 by_cases hc:zaL m=0
 ·have d5:decide (zaL m=0)=true:=decide_eq_true hc
  rw[if_pos hc]
  refine rgo (an2 d5 g6) ?_
  refine rc g6 (zkr (hrow.ext hE3)) ?_
  rintro uv w4 ⟨hr4,hE4,hcl⟩
  refine rgo trivial ?_
  refine zaf (.inr rfl) Tryz.ntmps155 rfl (zac (vr0) (zac (vr0) zae)) ?_
  refine⟨(hE2.trans hE3).trans hE4,_,rfl,hr4,fun a n' c hv=>?_⟩
  obtain⟨n2,k2,hv'⟩:=hcl _ _ _ hv
  have h1:=hblk _ _ _ hv'
  exact⟨h1.1,by have:=hE3.size;have:=hE4.size;omega⟩
 ·have d5:decide (zaL m=0)=false:=decide_eq_false hc
  rw[if_neg hc]
  refine rgo d5 ?_
  refine zaf (.inr rfl) Tryz.ntmps155 rfl (zac (vr0) (zac (vr0) zae)) ?_
  exact⟨hE2.trans hE3,_,rfl,(Own.nil 0 _ 0).row,none_blk _⟩
def WdC(cs:List Value)(x:Lab×Bool):Prop:=cs=[vs x.1,.bool x.2]
theorem zfe:zgf 2 WdC:=⟨fun h=>by rw[h];rfl,fun h q hq=>by rw[h]at hq;simp at hq;rcases hq with rfl|rfl<;>rfl⟩
def zbL(e x:Int):Int:=if e=0 then x else e
structure Rdr(W0 w:World)(b:Nat)(ws:List (Lab×Bool))(ov:Value)(e:Int):Prop where
 ext:Ext W0 w
 low:W0.heap.size≤b
 at':∃wv,w.heap[b]? =some (.cells #[wv,ov,vi e] 259 (0,0))∧Rows 2 WdC W0 wv ws
 one:one ov=true
theorem Rdr.lt{W0 w:World}{b:Nat}{ws:List (Lab×Bool)}{ov:Value}{e:Int}(h:Rdr W0 w b ws ov e):b<w.heap.size:=by
 obtain⟨wv,h1,_⟩:=h.at'
 exact(Array.getElem?_eq_some_iff.1 h1).1
theorem Rdr.keep{W0 w x:World}{b:Nat}{ws:List (Lab×Bool)}{ov:Value}{e:Int}{S:Nat→Prop}(h:Rdr W0 w b ws ov e)(hk:Keep S w x)(hS:∀i,S i→W0.heap.size≤i∧¬i=b):Rdr W0 x b ws ov e:=by
 obtain⟨wv,h1,h2⟩:=h.at'
 exact⟨Keep.to_ext h.ext rfl (fun i hi=>(hS i hi).1) hk,h.low,⟨wv,(hk.block _ h.lt fun hs=>(hS _ hs).2 rfl).trans h1,h2⟩,h.one⟩
theorem Rdr.extx{W0 w x:World}{b:Nat}{ws:List (Lab×Bool)}{ov:Value}{e:Int}(h:Rdr W0 w b ws ov e)(hE:Ext w x):Rdr W0 x b ws ov e:=h.keep hE fun _ h=>h.elim
theorem zdn{W0 w:World}{b:Nat}{ws:List (Lab×Bool)}{ov:Value}{e:Int}(h:Rdr W0 w b ws ov e)(x:Int):Fn Tryz.prog 219 #[.pointer (some ⟨b,0,Option.none⟩),vi x] w (fun _ w'=>Rdr W0 w' b ws ov (zbL e x)∧Keep (fun i=>i=b) w w'):=by
 obtain⟨wv,hb,hr⟩:=h.at'
 have c2:zad w (some ⟨b,2,Option.none⟩)=some (vi e):=zaa hb rfl
 unfold zbL
 refine enter Tryz.func219 Tryz.ntmps219 rfl rfl ?_
 by_cases he:e=0
 ·have d1:decide (e=0)=true:=decide_eq_true he
  rw[if_pos he]
  refine go (an3 c2 d1 (Nat.zero_add 2)) ?_
  refine rq ?_;intro gd K hgd hK
  try simp (disch:=first|omega|assumption|rfl) only[go_sem,Nat.zero_add]
  refine zaq (P:=Tryz.prog) rfl rfl rfl hb (by simp) (by simp) ?_
  intro w1 hs1 hb1 hk1
  try simp only[go_sem]
  refine hK _ _ ?_;clear hK hgd;clear K;try clear gd
  refine go trivial ?_
  exact zaw (by simp) rfl ⟨⟨Keep.to_ext h.ext rfl (fun i hi=>by have:=h.low;omega) hk1,h.low,⟨wv,hb1,hr⟩,h.one⟩,hk1⟩
 ·have d1:decide (e=0)=false:=decide_eq_false he
  rw[if_neg he]
  refine go (an3 c2 d1 (Nat.zero_add 2)) ?_
  exact zaw (by simp) rfl ⟨h,Keep.refl _ _⟩
theorem zdS{W0 w:World}{b:Nat}{t:Lab}{q:Bool}{ws:List (Lab×Bool)}{ov:Value}{e:Int}(h:Rdr W0 w b ((t,q)::ws) ov e)(hl:ws.length≤1000000):Fn Tryz.prog 245 #[.pointer (some ⟨b,0,Option.none⟩)] w (fun v w'=>v=vs t∧Rdr W0 w' b ws ov (if q=true then zbL e 2 else e)∧Keep (fun i=>i=b) w w'):=by
 obtain⟨wv,hb,hr⟩:=h.at'
 obtain⟨a,c,rfl,hc,hg⟩:=hr.open
 rw[List.length_cons]at hc
 obtain⟨cs,g0,hcs⟩:=hg 0 (by simp)
 simp only[List.getElem_cons_zero,Nat.zero_mul,zam]at g0 hcs
 unfold WdC at hcs
 subst hcs
 have g:=zah h.ext g0
 obtain⟨xa,rfl⟩:∃x,a=some x:=by
  cases a with
  |none=>cases g0
  |some x=>exact⟨x,rfl⟩
 have c0:zad w (some ⟨b,0,Option.none⟩)=some (.slice (some xa) (ws.length+1) c):=zaa hb rfl
 have hdr:=hr.drop (m:=1) (by simp)
 rw[List.drop_one,List.tail_cons,List.length_cons]at hdr
 have l0:(0:Int)<((ws.length+1:Nat):Int):=by omega
 have l1:(1:Int)≤((ws.length+1:Nat):Int):=by omega
 have l2:(1:Int)≤(c:Int):=by omega
 refine enter Tryz.func245 Tryz.ntmps245 rfl rfl ?_
 refine go trivial ?_
 refine rq ?_;intro gd K hgd hK
 try simp (disch:=first|omega|assumption|rfl) only[go_sem,c0,l0,Int.toNat_zero,Nat.zero_mul,zam,g]
 refine zbm (P:=Tryz.prog) (l:=[vs t,.bool q]) rfl (fun v hv=>by simp at hv;rcases hv with rfl|rfl<;>rfl) rfl rfl ?_
 intro w1 hE1 hs1 hB1
 try simp only[go_sem]
 refine hK _ _ ?_;clear hK hgd;clear K;try clear gd
 have hb1:=Ext.at hE1 hb
 have c1:zad w1 (some ⟨b,0,Option.none⟩)=some (.slice (some xa) (ws.length+1) c):=zaa hb1 rfl
 refine go trivial ?_
 refine rq ?_;intro gd K hgd hK
 try simp (disch:=first|omega|assumption|rfl) only[go_sem,c1,l1,l2]
 refine zaq (P:=Tryz.prog) rfl rfl rfl hb1 (by simp) (by simp) ?_
 intro w2 hs2 hb2 hk2
 try simp only[go_sem]
 refine hK _ _ ?_;clear hK hgd;clear K;try clear gd
 have hlow:=h.low
 have hbl:=h.lt
 have hR2:Rdr W0 w2 b ws ov e:=⟨Keep.to_ext (h.ext.trans hE1) rfl (fun i hi=>by omega) hk2,h.low,⟨_,hb2,hdr⟩,h.one⟩
 have hk02:Keep (fun i=>i=b) w w2:=(hE1.mono fun _ _ h=>h.elim).trans hk2
 have hB2:=(hk2.block w.heap.size (by omega) (by omega)).trans hB1
 have t0:zad w2 (some ⟨w.heap.size,0,Option.none⟩)=some (vs t):=za2 (j:=0) hB2 rfl
 have t1:zad w2 (some ⟨w.heap.size,1,Option.none⟩)=some (.bool q):=za2 (j:=1) hB2 rfl
 cases q with
 |false=>
  refine go (an3 t0 t1 (Nat.zero_add 1)) ?_
  refine rt0 Tryz.ntmps245 ?_
  exact⟨rfl,hR2,hk02⟩
 |true=>
  refine go (an3 t0 t1 (Nat.zero_add 1)) ?_
  refine rc trivial (zdn hR2 2) ?_
  rintro _ w3 ⟨hR3,hk3⟩
  have u0:zad w3 (some ⟨w.heap.size,0,Option.none⟩)=some (vs t):=za2 (j:=0) ((hk3.block w.heap.size (by omega) (by omega)).trans hB2) rfl
  refine rgo u0 ?_
  refine rt0 Tryz.ntmps245 ?_
  exact⟨rfl,hR3,hk02.trans hk3⟩
def stopsL:Lab:=[32,9,59,40,41,34]
inductive BareW:Lab→Prop
 |nil:BareW []
 |pair (d:UInt8) (r:Lab):BareW r→BareW (92::d::r)
 |one (c:UInt8) (r:Lab):c∉stopsL→c≠92→BareW r→BareW (c::r)
inductive QuotW:Lab→Prop
 |nil:QuotW []
 |pair (d:UInt8) (r:Lab):QuotW r→QuotW (92::d::r)
 |one (c:UInt8) (r:Lab):c≠34→c≠92→QuotW r→QuotW (c::r)
def EndW(s:Lab):Prop:=s=[]∨∃c r,s=c::r∧c∈stopsL
inductive Toks:Lab→List (Lab×Bool)→Prop
 |nil:Toks [] []
 |blank (c:UInt8) (s:Lab) (ws:List (Lab×Bool)):c=32∨c=9→Toks s ws→Toks (c::s) ws
 |semi (s:Lab):Toks (59::s) []
 |word (p s:Lab) (ws:List (Lab×Bool)):p≠ []→BareW p→EndW s→Toks s ws→Toks (p++s) ((p,false)::ws)
 |quot (q s:Lab) (ws:List (Lab×Bool)):QuotW q→Toks s ws→Toks (34::(q++34::s)) ((q,true)::ws)
theorem zcA{P:UInt8→Prop}(h:∀n:Fin 256,P (UInt8.ofNat n.val))(c:UInt8):P c:=by
 have:=h ⟨c.toNat,c.toNat_lt⟩
 rwa [UInt8.ofNat_toNat]at this
theorem ix_neg{c:UInt8}(h:c∉stopsL):decide (Lib.indexByte stopsL c<0)=true:=
 zcA (P:=fun c=>c∉stopsL→decide (Lib.indexByte stopsL c<0)=true) (by decide+kernel) c h
theorem ix_pos{c:UInt8}(h:c∈stopsL):decide (Lib.indexByte stopsL c<0)=false:=
 zcA (P:=fun c=>c∈stopsL→decide (Lib.indexByte stopsL c<0)=false) (by decide+kernel) c h
theorem ze2{s:Lab}{i:Nat}{c:UInt8}{r:Lab}(h:s.drop i=c::r):∃hi:i<s.length,s[i]=c∧s.drop (i+1)=r:=by
 have hi:i<s.length:=by
  by_cases h2:i<s.length
  ·exact h2
  ·rw[List.drop_eq_nil_of_le (by omega)]at h;cases h
 rw[List.drop_eq_getElem_cons hi]at h
 injection h with h1 h2
 exact⟨hi,h1,h2⟩
theorem e92(c:UInt8):decide ((c.toNat:Int)=92)=decide (c=92):=decide_eq_decide.2 ⟨fun h=>UInt8.toNat_inj.1 (show c.toNat=92 by omega),fun h=>by rw[h];rfl⟩
theorem e34(c:UInt8):decide ((c.toNat:Int)=34)=decide (c=34):=decide_eq_decide.2 ⟨fun h=>UInt8.toNat_inj.1 (show c.toNat=34 by omega),fun h=>by rw[h];rfl⟩
theorem bare_ok(w:World){p s:Lab}(hp:BareW p)(hs:EndW s)(hl:(p++s).length≤4000000000):Fn Tryz.prog 128 #[vs (p++s)] w (fun v w'=>v= .tuple #[vs p,vi p.length,vi 0]∧w'=w):=by
 obtain⟨t,ht⟩:∃t,p++s=t:=⟨_,rfl⟩
 have htl:t.length=p.length+s.length:=by rw[←ht,List.length_append]
 rw[ht]at hl ⊢
 refine enter Tryz.func128 Tryz.ntmps128 rfl rfl ?_
 refine go trivial ?_
 refine zaD (fun m σ ds v=>ds=[]∧∃i r,i+r.length=p.length∧m=r.length+1∧t.drop i=r++s∧BareW r∧(σ 0=vs t∧σ 5=vi i)∧v=w) (p.length+1) ?_ ?_
 ·exact⟨rfl,0,p,by omega,rfl,by rw[←ht];rfl,hp,⟨vr0,vr0⟩,rfl⟩
 rintro m σ ds v ⟨rfl,i,r,hir,hm,hdr,hr,⟨s0,s5⟩,hv⟩
 subst hv
 have i0:(0:Int)≤(i:Int):=by omega
 -- the end
 have fin:r=[]→i=p.length∧t.take i=p:=fun h=>by
  rw[h,List.length_nil]at hir
  have h1:i=p.length:=by omega
  exact⟨h1,by rw[h1,←ht,List.take_left'];rfl⟩
 cases hr with
 |nil=>
  obtain⟨h1,h2⟩:=fin rfl
  rw[List.nil_append]at hdr
  have k1:(i:Int)≤(t.length:Int):=by omega
  have key:∀{σ':Sto},σ' 0=vs t→σ' 5=vi i→True:=fun _ _=>trivial
  rcases hs with rfl| ⟨c,q,rfl,hc⟩
  ·have d1:decide ((i:Int)<(t.length:Int))=false:=decide_eq_false (by simp at htl;omega)
   refine go (an2 s0 s5) ?_
   refine rgg [(4,10)] (an3 s0 s5 d1) ?_
   refine go (an6 s0 s5 i0 k1 Int.toNat_natCast h2) ?_
   refine zaf (.inr rfl) Tryz.ntmps128 rfl (zac ((vr1 h2)) (zac ((vr1 s5)) (zac (vr0) zae))) ?_
   exact⟨by rw[h1];rfl,rfl⟩
  ·obtain⟨hi,hc1,_⟩:=ze2 hdr
   have d1:decide ((i:Int)<(t.length:Int))=true:=decide_eq_true (by omega)
   have r2:(i:Int)<(t.length:Int):=by omega
   have hin:(i:Int).toNat<t.length:=by omega
   have hb2:t[(i:Int).toNat]'hin=c:=hc1
   have b4:((i:Nat):Int).toNat=i:=rfl
   refine go (an2 s0 s5) ?_
   refine rcg [(4,10)] (an7 s0 s5 d1 i0 r2 hb2 (an2 b4 hc1)) (zcv v stopsL c) ?_
   rintro _ _ ⟨rfl,rfl⟩
   refine reg [(4,10)] (an2 d1 (ix_pos hc)) ?_
   refine go (an6 s0 s5 i0 k1 Int.toNat_natCast h2) ?_
   refine zaf (.inr rfl) Tryz.ntmps128 rfl (zac ((vr1 h2)) (zac ((vr1 s5)) (zac (vr0) zae))) ?_
   exact⟨by rw[h1];rfl,rfl⟩
 |pair d q hq=>
  obtain⟨hi,hc1,hdr1⟩:=ze2 (show t.drop i=92::d::(q++s) from hdr)
  obtain⟨hi2,_,hdr2⟩:=ze2 hdr1
  have d1:decide ((i:Int)<(t.length:Int))=true:=decide_eq_true (by omega)
  have r2:(i:Int)<(t.length:Int):=by omega
  have hin:(i:Int).toNat<t.length:=by omega
  have hb2:t[(i:Int).toNat]'hin=92:=hc1
  have b4:((i:Nat):Int).toNat=i:=rfl
  have i1:(i:Int)+1=((i+1:Nat):Int):=by push_cast;rfl
  have i2:((i+1:Nat):Int)+1=((i+2:Nat):Int):=by push_cast;rfl
  have d2:decide (((i+1:Nat):Int)=(t.length:Int))=false:=decide_eq_false (by omega)
  have hbc:zao 92= .int .u8 92:=rfl
  have d92:decide ((92:Int)=92)=true:=rfl
  refine go (an2 s0 s5) ?_
  refine rcg [(4,10)] (an7 s0 s5 d1 i0 r2 hb2 (an2 b4 hc1)) (zcv v stopsL 92) ?_
  rintro _ _ ⟨rfl,rfl⟩
  refine reg [(4,10)] (an2 d1 (ix_neg (c:=92) (by decide))) ?_
  refine go (an9 s0 s5 i0 r2 hb2 b4 hc1 hbc (an5 d92 Bool.not_true i1 d2 i2)) ?_
  refine⟨m - 2,by omega,rfl,i+2,q,by simp at hir;omega,by simp at hm;omega,hdr2,hq,⟨(vq1 s0),(vq1 i2)⟩,rfl⟩
 |one c q hc h92 hq=>
  obtain⟨hi,hc1,hdr1⟩:=ze2 (show t.drop i=c::(q++s) from hdr)
  have d1:decide ((i:Int)<(t.length:Int))=true:=decide_eq_true (by omega)
  have r2:(i:Int)<(t.length:Int):=by omega
  have hin:(i:Int).toNat<t.length:=by omega
  have hb2:t[(i:Int).toNat]'hin=c:=hc1
  have b4:((i:Nat):Int).toNat=i:=rfl
  have i1:(i:Int)+1=((i+1:Nat):Int):=by push_cast;rfl
  have hbc:zao c= .int .u8 (c.toNat:Int):=rfl
  have d92:decide ((c.toNat:Int)=92)=false:=by rw[e92];exact decide_eq_false h92
  refine go (an2 s0 s5) ?_
  refine rcg [(4,10)] (an7 s0 s5 d1 i0 r2 hb2 (an2 b4 hc1)) (zcv v stopsL c) ?_
  rintro _ _ ⟨rfl,rfl⟩
  refine reg [(4,10)] (an2 d1 (ix_neg hc)) ?_
  refine go (an9 s0 s5 i0 r2 hb2 b4 hc1 hbc (an3 d92 Bool.not_false i1)) ?_
  refine⟨m - 1,by omega,rfl,i+1,q,by simp at hir;omega,by simp at hm;omega,hdr1,hq,⟨(vq1 s0),(vq1 i1)⟩,rfl⟩
theorem zlV(w:World){q s:Lab}(hq:QuotW q)(hl:(34::(q++34::s)).length≤4000000000):Fn Tryz.prog 127 #[vs (34::(q++34::s))] w (fun v w'=>v= .tuple #[vs q,vi (q.length+2:Nat),vi 0]∧w'=w):=by
 obtain⟨t,ht⟩:∃t,34::(q++34::s)=t:=⟨_,rfl⟩
 have htl:t.length=q.length+s.length+2:=by rw[←ht];simp;omega
 rw[ht]at hl ⊢
 refine enter Tryz.func127 Tryz.ntmps127 rfl rfl ?_
 refine go trivial ?_
 refine zaD (fun m σ ds v=>ds=[]∧∃i r,i+r.length=q.length+1∧1≤i∧m=r.length+1∧t.drop i=r++34::s∧QuotW r∧(σ 0=vs t∧σ 5=vi i)∧v=w) (q.length+1) ?_ ?_
 ·exact⟨rfl,1,q,by omega,by omega,rfl,by rw[←ht];rfl,hq,⟨vr0,vr0⟩,rfl⟩
 rintro m σ ds v ⟨rfl,i,r,hir,hi1,hm,hdr,hr,⟨s0,s5⟩,hv⟩
 subst hv
 have i0:(0:Int)≤(i:Int):=by omega
 cases hr with
 |nil=>
  obtain⟨hi,hc1,_⟩:=ze2 (show t.drop i=34::s from hdr)
  have h1:i=q.length+1:=by simp at hir;omega
  have d1:decide ((i:Int)<(t.length:Int))=true:=decide_eq_true (by omega)
  have r2:(i:Int)<(t.length:Int):=by omega
  have hin:(i:Int).toNat<t.length:=by omega
  have hb2:t[(i:Int).toNat]'hin=34:=hc1
  have b4:((i:Nat):Int).toNat=i:=rfl
  have hbc:zao 34= .int .u8 34:=rfl
  have d34:decide ((34:Int)=34)=true:=rfl
  have i1:(i:Int)+1=((i+1:Nat):Int):=by push_cast;rfl
  have j0:(0:Int)≤1:=by decide
  have j1:(1:Int)≤(i:Int):=by omega
  have j2:(i:Int)≤(t.length:Int):=by omega
  have t1:(1:Int).toNat=1:=rfl
  have hsl:(t.drop 1).take (i - 1)=q:=by rw[←ht,h1];simp
  refine go (an9 s0 s5 d1 i0 r2 hb2 b4 hc1 (an9 hbc d34 i1 j0 j1 j2 t1 Int.toNat_natCast hsl)) ?_
  refine zaf (.inr rfl) Tryz.ntmps127 rfl (zac ((vr1 hsl)) (zac ((vr1 i1)) (zac (vr0) zae))) ?_
  exact⟨by rw[h1];rfl,rfl⟩
 |pair d r' hr'=>
  obtain⟨hi,hc1,hdr1⟩:=ze2 (show t.drop i=92::d::(r'++34::s) from hdr)
  obtain⟨hi2,_,hdr2⟩:=ze2 hdr1
  have d1:decide ((i:Int)<(t.length:Int))=true:=decide_eq_true (by omega)
  have r2:(i:Int)<(t.length:Int):=by omega
  have hin:(i:Int).toNat<t.length:=by omega
  have hb2:t[(i:Int).toNat]'hin=92:=hc1
  have b4:((i:Nat):Int).toNat=i:=rfl
  have i1:(i:Int)+1=((i+1:Nat):Int):=by push_cast;rfl
  have i2:((i+1:Nat):Int)+1=((i+2:Nat):Int):=by push_cast;rfl
  have hbc:zao 92= .int .u8 92:=rfl
  have d34:decide ((92:Int)=34)=false:=rfl
  have d92:decide ((92:Int)=92)=true:=rfl
  refine go (an9 s0 s5 d1 i0 r2 hb2 b4 hc1 (an5 hbc d34 d92 i1 i2)) ?_
  refine⟨m - 2,by omega,rfl,i+2,r',by simp at hir;omega,by omega,by simp at hm;omega,hdr2,hr',⟨(vq1 s0),(vq1 i2)⟩,rfl⟩
 |one c r' h34 h92 hr'=>
  obtain⟨hi,hc1,hdr1⟩:=ze2 (show t.drop i=c::(r'++34::s) from hdr)
  have d1:decide ((i:Int)<(t.length:Int))=true:=decide_eq_true (by omega)
  have r2:(i:Int)<(t.length:Int):=by omega
  have hin:(i:Int).toNat<t.length:=by omega
  have hb2:t[(i:Int).toNat]'hin=c:=hc1
  have b4:((i:Nat):Int).toNat=i:=rfl
  have i1:(i:Int)+1=((i+1:Nat):Int):=by push_cast;rfl
  have hbc:zao c= .int .u8 (c.toNat:Int):=rfl
  have d34:decide ((c.toNat:Int)=34)=false:=by rw[e34];exact decide_eq_false h34
  have d92:decide ((c.toNat:Int)=92)=false:=by rw[e92];exact decide_eq_false h92
  refine go (an9 s0 s5 d1 i0 r2 hb2 b4 hc1 (an4 hbc d34 d92 i1)) ?_
  refine⟨m - 1,by omega,rfl,i+1,r',by simp at hir;omega,by omega,by simp at hm;omega,hdr1,hr',⟨(vq1 s0),(vq1 i1)⟩,rfl⟩
section
variable {P : Program} {d : Option Tmp} {ty : TypeId} {ps : String} {af : Array Edge} {g : Option (Nat × Bool)} {ρ : Operand → Value} {w : World} {K : Value → World → Prop}
end
section
variable {P : Program} {d : Option Tmp} {ty : TypeId} {ps : String} {af : Array Edge} {g : Option (Nat × Bool)} {ρ : Operand → Value} {w : World} {K : Value → World → Prop}
theorem zjM{e:TypeId}{cs:Array Value}{i:Nat}{v:Value}(he:(isAgg e).run P w= .ok false w)(hv:cs[i]? =some v):(part e cs i).run P w= .ok v w:=by
 unfold part
 simp only[Sem.run_bind,he,Result.andThen_ok,Bool.false_eq_true,if_false,hv,Sem.run_pure]
theorem eqIn_wd{t:TypeId}{f1 f2:Field}(ht:P.underlying t=some (.struct #[f1,f2]))(h1n:f1.name≠ "_")(h2n:f2.name≠ "_")(o1:f1.offset=0)(o2:f2.offset=1)(hs:P.stoodInHeld t=false)(h1:P.underlying f1.type=some .string)(h2:P.underlying f2.type=some .bool)(n:Nat)(a a':Lab)(b b':Bool):
  (Op.equalIn (n+2) t (.agg #[vs a,.bool b]) (.agg #[vs a',.bool b'])).run P w= .ok (decide ((a,b)=(a',b'))) w:=by
 have k1:(isAgg f1.type).run P w= .ok false w:=by simp[isAgg,underlying,program,Sem.run,h1]
 have k2:(isAgg f2.type).run P w= .ok false w:=by simp[isAgg,underlying,program,Sem.run,h2]
 have p1:∀x y:Value,(part f1.type #[x,y] 0).run P w= .ok x w:=fun _ _=>zjM k1 rfl
 have p2:∀x y:Value,(part f2.type #[x,y] 1).run P w= .ok y w:=fun _ _=>zjM k2 rfl
 have q1:∀a a':Lab,(Op.equalIn (n+1) f1.type (vs a) (vs a')).run P w= .ok (decide (a=a')) w:=fun a a'=>by
  have h0:((⟨a.toArray⟩:ByteArray)==⟨a'.toArray⟩)=decide (a=a'):=by
   show ByteArray.beq _ _=_
   unfold ByteArray.beq
   by_cases h:a=a'
   ·subst h;simp
   ·rw[decide_eq_false h]
    simp[h]
  simp[Op.equalIn,underlying,program,Sem.run,h1,vs,h0]
 have q2:∀b b':Bool,(Op.equalIn (n+1) f2.type (.bool b) (.bool b')).run P w= .ok (decide (b=b')) w:=fun b b'=>by
  cases b<;>cases b'<;>simp[Op.equalIn,underlying,program,Sem.run,h2]
 have hu:(underlying t).run P w= .ok (.struct #[f1,f2]) w:=by simp[underlying,program,Sem.run,ht]
 have hp:(program:Sem Program).run P w= .ok P w:=by simp[program,Sem.run]
 rw[Op.equalIn]
 simp only[Sem.run_bind,hu,hp,Result.andThen_ok,hs,Bool.false_eq_true,if_false]
 by_cases c1:a=a'
 ·by_cases c2:b=b'
  ·simp[List.forIn_cons,Sem.run_bind,p1,p2,q1,q2,c1,c2,h1n,h2n,o1,o2]
  ·simp[List.forIn_cons,Sem.run_bind,p1,p2,q1,q2,c1,c2,h1n,h2n,o1,o2]
 ·simp[List.forIn_cons,Sem.run_bind,p1,p2,q1,q2,c1,h1n,h2n,o1,o2]
theorem op_eqS{t yt:TypeId}{x y:Operand}{f1 f2:Field}{a a':Lab}{b b':Bool}(ht:P.underlying t=some (.struct #[f1,f2]))(h1n:f1.name≠ "_")(h2n:f2.name≠ "_")(o1:f1.offset=0)(o2:f2.offset=1)(hs:P.stoodInHeld t=false)(h1:P.underlying f1.type=some .string)(h2:P.underlying f2.type=some .bool)(hg:P.eqGuardType P.depth t=false)
  (hx:ρ x= .agg #[vs a,.bool b]) (hy:ρ y= .agg #[vs a',.bool b']) (h:K (.bool (decide ((a,b)=(a',b')))) w):
  opW P ⟨d,.binOp .eql t x y yt,ty,ps,af,g⟩ ρ w K:=by
 have e2:(Op.equal t (.agg #[vs a,.bool b]) (.agg #[vs a',.bool b'])).run P w= .ok (decide ((a,b)=(a',b'))) w:=eqIn_wd ht h1n h2n o1 o2 hs h1 h2 9998 a a' b b'
 have hr:(do eqGuard .eql t x y (.agg #[vs a,.bool b]) (.agg #[vs a',.bool b']);binOp .eql t (.agg #[vs a,.bool b]) (.agg #[vs a',.bool b']):Sem Value).run P w= .ok (.bool (decide ((a,b)=(a',b')))) w:=by
  simp[eqGuard,binOp,e2,program,Sem.run,hg]
 have:=zaC (P:=P) (K:=K) hr h
 rw[←hx,←hy]at this
 exact this
end
structure EntL where
 line:Int
 blank:Bool
 words:List (Lab×Bool)
def Fx(M:Nat→Prop)(w:World)(v:Value):Prop:=∀a n c,v= .slice (some a) n c→a.block<w.heap.size∧¬M a.block
theorem Fx.step{M M' S:Nat→Prop}{w x:World}{v:Value}(h:Fx M w v)(hk:Keep S w x)(hM:∀i,M' i→M i∨w.heap.size≤i):Fx M' x v:=fun a n c hv=>by
 obtain⟨h1,h2⟩:=h a n c hv
 have:=hk.size
 exact⟨by omega,fun h=>(hM _ h).elim h2 (by omega)⟩
def EntZ(M:Nat→Prop)(w:World)(cs:List Value)(e:EntL):Prop:=∃v,cs=[vi e.line,.bool e.blank,v]∧Rows 2 WdC w v e.words∧Fx M w v
theorem EntZ.step{M M' S:Nat→Prop}{w x:World}{cs:List Value}{e:EntL}(h:EntZ M w cs e)(hk:Keep S w x)(hS:∀i,S i→M i)(hM:∀i,M' i→M i∨w.heap.size≤i):EntZ M' x cs e:=by
 obtain⟨v,e1,h1,h2⟩:=h
 exact⟨v,e1,h1.blocks fun a n c hv=>hk.block _ (h2 a n c hv).1 fun h=>(h2 a n c hv).2 (hS _ h),h2.step hk hM⟩
def EntC(w:World)(cs:List Value)(e:EntL):Prop:=∃v,cs=[vi e.line,.bool e.blank,v]∧Rows 2 WdC w v e.words
theorem EntC.ext{w x:World}{cs:List Value}{e:EntL}(h:EntC w cs e)(hE:Ext w x):EntC x cs e:=by
 obtain⟨v,e1,h1⟩:=h
 exact⟨v,e1,h1.ext hE⟩
def gE(cs:List Value)(x:EntL×List Value):Prop:=cs=x.2∧cs.length=3∧∀q∈cs,one q=true
theorem zjZ:zgf 3 gE:=⟨fun h=>h.2.1,fun h=>h.2.2⟩
def MutT(B:Nat)(ov wv:Value):Nat→Prop:=fun i=>i<B∨some i=ov.ownBlock∨some i=wv.ownBlock
structure TR(B:Nat)(w:World)(b:Nat)(out:List EntL)(nl:Int)(nb:Bool)(nw:List (Lab×Bool))(ln:Int)(bg:Bool)(ov wv:Value)(G:List (EntL×List Value)):Prop where
 h:w.heap[b]? =some (.cells #[ov,vi nl,.bool nb,wv,vi ln,.bool bg,.slice Option.none 0 0] 158 (0,0))
 lt:b<B
 le:B≤w.heap.size
 oo:Owns 3 gE B w 122 ov G
 ow:Owns 2 WdC B w 164 wv nw
 d:∀i,some i=ov.ownBlock→some i≠wv.ownBlock
 ol:out=G.map Prod.fst
 fr:∀x∈G,EntZ (MutT B ov wv) w x.2 x.1
def TRx(B:Nat)(w:World)(b:Nat)(out:List EntL)(nl:Int)(nb:Bool)(nw:List (Lab×Bool))(ln:Int)(bg:Bool):Prop:=∃ov wv G,TR B w b out nl nb nw ln bg ov wv G
section
variable {B b : Nat} {w x : World} {out : List EntL} {nl ln : Int} {nb bg : Bool} {nw : List (Lab × Bool)} {ov wv : Value} {G : List (EntL × List Value)}
theorem TR.ext(h:TR B w b out nl nb nw ln bg ov wv G)(hE:Ext w x):TR B x b out nl nb nw ln bg ov wv G:=
 ⟨Ext.at hE h.h,h.lt,Nat.le_trans h.le hE.size,h.oo.ext hE,h.ow.ext hE,h.d,h.ol,fun y hy=>(h.fr y hy).step hE (fun _ h=>h.elim) fun _ h=> .inl h⟩
theorem TRx.ext(h:TRx B w b out nl nb nw ln bg)(hE:Ext w x):TRx B x b out nl nb nw ln bg:=by
 obtain⟨ov,wv,G,h⟩:=h
 exact⟨ov,wv,G,h.ext hE⟩
theorem TR.turn(h:TR B w b out nl nb nw ln bg ov wv G){nl' ln':Int}{nb' bg':Bool}(hk:Keep (fun i=>i<B) w x)(hb:x.heap[b]? =some (.cells #[ov,vi nl',.bool nb',wv,vi ln',.bool bg',.slice Option.none 0 0] 158 (0,0))):TR B x b out nl' nb' nw ln' bg' ov wv G:=by
 have hl:=h.lt
 exact⟨hb,h.lt,Nat.le_trans h.le hk.size,h.oo.keep hk fun i hi e=>by have:=(h.oo.ge hi).1;omega,h.ow.keep hk fun i hi e=>by have:=(h.ow.ge hi).1;omega,h.d,h.ol,fun y hy=>(h.fr y hy).step hk (fun i e=> .inl e) fun _ h=> .inl h⟩
theorem TR.low(h:TR B w b out nl nb nw ln bg ov wv G)(hk:Keep (fun i=>i<B∧i≠b) w x):TR B x b out nl nb nw ln bg ov wv G:=by
 have hl:=h.lt
 have hle:=h.le
 exact TR.turn h (hk.mono fun i _ e=>e.1) ((hk.block b (by omega) (by omega)).trans h.h)
theorem TR.put(h:TR B w b out nl nb nw ln bg ov wv G){y:World}{wv':Value}{t:Lab×Bool}{nl':Int}(ho:Owns 2 WdC B y 164 wv' (nw++ [t]))(hk:Keep (fun i=>some i=wv.ownBlock) w y)(hb2:∀i,some i=wv'.ownBlock→some i=wv.ownBlock∨w.heap.size≤i)
  (hky:Keep (fun i=>i=b) y x) (hb:x.heap[b]? =some (.cells #[ov,vi nl',.bool nb,wv',vi ln,.bool bg,.slice Option.none 0 0] 158 (0,0))):TR B x b out nl' nb (nw++ [t]) ln bg ov wv' G:=by
 have hl:=h.lt
 have hw:=h.le
 have hsy:=hk.size
 have hsx:=hky.size
 have hkk:Keep (MutT B ov wv) w x:=(hk.mono fun i _ e=> .inr (.inr e)).trans (hky.mono fun i _ e=> .inl (by omega))
 refine⟨hb,hl,by omega,?_,ho.keep hky fun i hi e=>by have:=(ho.ge hi).1;omega,fun i hi e=>?_,h.ol,fun z hz=>(h.fr z hz).step hkk (fun i e=>e) fun i hi=>?_⟩
 ·exact(h.oo.keep hk fun i hi e=>h.d i hi e).keep hky fun i hi e=>by have:=(h.oo.ge hi).1;omega
 ·rcases hb2 i e with e2|e2
  ·exact h.d i hi e2
  ·have:=(h.oo.ge hi).2;omega
 ·rcases hi with hi|hi|hi
  ·exact .inl (.inl hi)
  ·exact .inl (.inr (.inl hi))
  ·exact(hb2 i hi).elim (fun e=> .inl (.inr (.inr e))) .inr
theorem TR.end_(h:TR B w b out nl nb nw ln bg ov wv G){y:World}{ov':Value}(ho:Owns 3 gE B y 122 ov' (G++ [(⟨nl,nb,nw⟩,[vi nl,.bool nb,wv])]))(hk:Keep (fun i=>some i=ov.ownBlock) w y)(hb2:∀i,some i=ov'.ownBlock→some i=ov.ownBlock∨w.heap.size≤i)
  (hky:Keep (fun i=>i=b) y x) (hb:x.heap[b]? =some (.cells #[ov',vi 0,.bool false,.slice Option.none 0 0,vi ln,.bool false,.slice Option.none 0 0] 158 (0,0))):TR B x b (out++ [⟨nl,nb,nw⟩]) 0 false [] ln false ov' (.slice Option.none 0 0) (G++ [(⟨nl,nb,nw⟩,[vi nl,.bool nb,wv])]):=by
 have hl:=h.lt
 have hw:=h.le
 have hsy:=hk.size
 have hsx:=hky.size
 have hkk:Keep (MutT B ov wv) w x:=(hk.mono fun i _ e=> .inr (.inl e)).trans (hky.mono fun i _ e=> .inl (by omega))
 have hM:∀i,MutT B ov' (.slice Option.none 0 0) i→MutT B ov wv i∨w.heap.size≤i:=fun i hi=>by
  rcases hi with hi|hi|hi
  ·exact .inl (.inl hi)
  ·exact(hb2 i hi).elim (fun e=> .inl (.inr (.inl e))) .inr
  ·cases hi
 refine⟨hb,hl,by omega,ho.keep hky fun i hi e=>by have:=(ho.ge hi).1;omega,Owns.nil _ _ _ _ _,fun i _ e=>(by cases e),by rw[h.ol];simp,fun z hz=>?_⟩
 rcases List.mem_append.1 hz with h1|h1
 ·exact(h.fr z h1).step hkk (fun i e=>e) hM
 ·rw[List.mem_singleton.1 h1]
  have hop:Owns 2 WdC B x 164 wv nw:=(h.ow.keep hk fun i hi e=>h.d i e hi).keep hky fun i hi e=>by have:=(h.ow.ge hi).1;omega
  refine⟨wv,rfl,hop.rows,fun a n c hv=>?_⟩
  have e:some a.block=wv.ownBlock:=by rw[hv];rfl
  have g:=h.ow.ge e
  refine⟨by omega,fun hm=>?_⟩
  rcases hm with e2|e2|e2
  ·omega
  ·rcases hb2 _ e2 with e3|e3
   ·exact h.d _ e3 e
   ·omega
  ·cases e2
theorem put_ok(h:TRx B w b out nl nb nw ln bg){t:Lab}{q:Bool}(hl:nw.length≤1000000000):Fn Tryz.prog 129 #[.pointer (some ⟨b,0,Option.none⟩),.agg #[vs t,.bool q]] w (fun _ w'=>TRx B w' b out (if nw=[] then ln else nl) nb (nw++ [(t,q)]) ln bg∧Keep (fun i=>i=b∨B≤i) w w'):=by
 obtain⟨ov,wv,G,h⟩:=h
 have hlt:=h.lt
 have hle:=h.le
 obtain⟨wa,wc,rfl,_⟩:=h.ow.rows.open
 refine enter Tryz.func129 Tryz.ntmps129 rfl rfl ?_
 refine go trivial ?_
 refine zan ?_
 intro w1 hE1 hs1 hA
 have h1:=h.ext hE1
 have k3:zad w1 (some ⟨b,3,Option.none⟩)=some (.slice wa nw.length wc):=zaa h1.h rfl
 have k4:zad w1 (some ⟨b,4,Option.none⟩)=some (vi ln):=zaa h1.h rfl
 have qw:zar w1 (some ⟨w.heap.size,0,Option.none⟩) 2=some [vs t,.bool q]:=zal (n:=2) (l:=[vs t,.bool q]) hA rfl
 by_cases hn:nw=[]
 ·have d:decide ((nw.length:Int)=0)=true:=decide_eq_true (by rw[hn];rfl)
  rw[if_pos hn]
  refine go (an3 k3 d Nat.zero_add) ?_
  refine rq ?_;intro gd K hgd hK
  try simp (disch:=first|omega|assumption|rfl) only[go_sem,k4,Nat.zero_add]
  refine zaq (P:=Tryz.prog) rfl rfl rfl h1.h (by simp) (by simp) ?_
  intro w2 hs2 hb2' hk2'
  try simp only[go_sem]
  refine hK _ _ ?_;clear hK hgd;clear K;try clear gd
  have h2:TR B w2 b out ln nb nw ln bg ov (.slice wa nw.length wc) G:=TR.turn h1 (hk2'.mono fun i _ e=>by omega) hb2'
  have hk02:Keep (fun i=>i=b∨B≤i) w w2:=(hE1.mono fun _ _ h=>h.elim).trans (hk2'.mono fun i _ e=>by omega)
  have hE2:zar w2 (some ⟨w.heap.size,0,Option.none⟩) 2=some [vs t,.bool q]:=by
   rw[zf5 (w:=w1) (fun a ha=>by cases ha;exact hk2'.block w.heap.size (by omega) (by omega))]
   exact qw
  have k3':zad w2 (some ⟨b,3,Option.none⟩)=some (.slice wa nw.length wc):=zaa h2.h rfl
  have qw':=hE2
  refine go trivial ?_
  refine zaF (fun i=>i==8||i==12) [(0,true),(1,true),(2,true),(3,true),(4,true),(5,true),(6,true),(7,false),(8,false),(9,true),(10,true),(11,true),(12,false)] NoS mixed (by kernel_rfl) ?_;intro gd K x hgd hx hxe hK;have hx0:=zaT hxe;clear hxe
  have k3x:=zab hx0 k3'
  have qwx:=zah hx0 qw'
  have hzx:=h2.ext hx0
  simp (disch:=first|omega|assumption|rfl) only[go_sem,k3x,qwx,Nat.zero_add]
  refine zc2 zfe (l:=[vs t,.bool q]) (a:=(t,q)) rfl rfl rfl rfl rfl (by decide) ?_
  intro y1 hy1 hys1 ho1
  refine⟨.inr hy1.keep,?_⟩
  have hzy:=hzx.ext hy1
  simp (disch:=first|omega|assumption|rfl) only[go_sem]
  refine zbU zfe hzy.ow ho1.rows rfl rfl rfl rfl rfl rfl (by decide) (vr0) (vr0) (by simp;omega) (by decide) hzy.le ?_
  intro wv' y2 ho2 hX2 hk2 hb2
  refine⟨.inl rfl,?_⟩
  have h1v:one wv'=true:=by rcases ho2.cases with ⟨e,_⟩| ⟨_,_,_,e,_⟩<;>rw[e]<;>rfl
  have hby2:=(hk2.block b (by have:=hzy.le;omega) fun e=>by have:=(hzy.ow.ge e).1;omega).trans hzy.h
  simp (disch:=first|omega|assumption|rfl) only[go_sem,Nat.zero_add]
  refine zaq (P:=Tryz.prog) rfl rfl h1v hby2 (by simp) (by simp) ?_
  intro y3 hs3 hb3 hk3
  refine⟨.inl rfl,?_⟩
  simp (disch:=first|omega|assumption|rfl) only[go_sem]
  refine hK _ _ ?_;clear hK hgd;clear K;try clear gd
  refine go trivial ?_
  refine zaw (by simp) rfl ⟨⟨ov,wv',G,TR.put hzy ho2 hk2 hb2 hk3 hb3⟩,?_⟩
  exact(((hk02.trans (hx0.mono fun _ _ h=>h.elim)).trans (hy1.mono fun _ _ h=>h.elim)).trans (hk2.mono fun i _ e=>by have:=(hzy.ow.ge e).1;omega)).trans (hk3.mono fun i _ e=>by omega)
 ·have d:decide ((nw.length:Int)=0)=false:=decide_eq_false fun e=>hn (List.length_eq_zero_iff.1 (by omega))
  rw[if_neg hn]
  refine go (an3 k3 d Nat.zero_add) ?_
  have h2:=h1
  have hk02:Keep (fun i=>i=b∨B≤i) w w1:=hE1.mono fun _ _ h=>h.elim
  have k3':zad w1 (some ⟨b,3,Option.none⟩)=some (.slice wa nw.length wc):=zaa h2.h rfl
  have qw':=qw
  refine go trivial ?_
  refine zaF (fun i=>i==8||i==12) [(0,true),(1,true),(2,true),(3,true),(4,true),(5,true),(6,true),(7,false),(8,false),(9,true),(10,true),(11,true),(12,false)] NoS mixed (by kernel_rfl) ?_;intro gd K x hgd hx hxe hK;have hx0:=zaT hxe;clear hxe
  have k3x:=zab hx0 k3'
  have qwx:=zah hx0 qw'
  have hzx:=h2.ext hx0
  simp (disch:=first|omega|assumption|rfl) only[go_sem,k3x,qwx,Nat.zero_add]
  refine zc2 zfe (l:=[vs t,.bool q]) (a:=(t,q)) rfl rfl rfl rfl rfl (by decide) ?_
  intro y1 hy1 hys1 ho1
  refine⟨.inr hy1.keep,?_⟩
  have hzy:=hzx.ext hy1
  simp (disch:=first|omega|assumption|rfl) only[go_sem]
  refine zbU zfe hzy.ow ho1.rows rfl rfl rfl rfl rfl rfl (by decide) (vr0) (vr0) (by simp;omega) (by decide) hzy.le ?_
  intro wv' y2 ho2 hX2 hk2 hb2
  refine⟨.inl rfl,?_⟩
  have h1v:one wv'=true:=by rcases ho2.cases with ⟨e,_⟩| ⟨_,_,_,e,_⟩<;>rw[e]<;>rfl
  have hby2:=(hk2.block b (by have:=hzy.le;omega) fun e=>by have:=(hzy.ow.ge e).1;omega).trans hzy.h
  simp (disch:=first|omega|assumption|rfl) only[go_sem,Nat.zero_add]
  refine zaq (P:=Tryz.prog) rfl rfl h1v hby2 (by simp) (by simp) ?_
  intro y3 hs3 hb3 hk3
  refine⟨.inl rfl,?_⟩
  simp (disch:=first|omega|assumption|rfl) only[go_sem]
  refine hK _ _ ?_;clear hK hgd;clear K;try clear gd
  refine go trivial ?_
  refine zaw (by simp) rfl ⟨⟨ov,wv',G,TR.put hzy ho2 hk2 hb2 hk3 hb3⟩,?_⟩
  exact(((hk02.trans (hx0.mono fun _ _ h=>h.elim)).trans (hy1.mono fun _ _ h=>h.elim)).trans (hk2.mono fun i _ e=>by have:=(hzy.ow.ge e).1;omega)).trans (hk3.mono fun i _ e=>by omega)
end
section
variable {P : Program} {w : World} {e : TypeId} {K : Value → World → Prop}
theorem zeG(A V:List Value){B:List Value}{t:TypeId}{b:Nat}{l:List Value}(hb:w.heap[b]? =some (.cells (A++V++B).toArray e (0,0)))(hl:V.length=l.length)(h1:∀v∈l,one v=true)(hs:tyS P t=l.length)(hi:(P.info? t).isSome=true)
  (hK:∀w',w'.heap.size=w.heap.size→w'.heap[b]? =some (.cells (A++l++B).toArray e (0,0))→Keep (fun i=>i=b) w w'→K undef w'):stK P t (.pointer (some ⟨b,A.length,Option.none⟩)) (.agg l.toArray) w K:=by
 obtain⟨w',k1,k2,k3,cur',k4,k5⟩:=zef (o:=A.length) l 0 w A V B _ hb (by simp) rfl hl h1
 refine⟨by simp[Value.cells,hs],hi,w',by simpa [Value.cells] using k1,hK w' k2 ?_ k3⟩
 rw[k4]
 have:cur'=(A++l++B).toArray:=by
  apply Array.ext'
  simpa using k5
 rw[this]
end
section
variable {B b : Nat} {w x : World} {out : List EntL} {nl ln : Int} {nb bg : Bool} {nw : List (Lab × Bool)}
theorem end_ok(h:TRx B w b out nl nb nw ln bg)(hl:out.length≤1000000000)(hwl:nw.length≤1000000000):Fn Tryz.prog 94 #[.pointer (some ⟨b,0,Option.none⟩)] w (fun _ w'=>TRx B w' b (if nw=[] then out else out++ [⟨nl,nb,nw⟩]) 0 false [] ln false∧Keep (fun i=>i=b∨B≤i) w w'):=by
 obtain⟨ov,wv,G,h⟩:=h
 have hlt:=h.lt
 have hle:=h.le
 obtain⟨wa,wc,rfl,_⟩:=h.ow.rows.open
 obtain⟨oa,oc,hov,_⟩:=h.oo.rows.open
 have hGl:G.length≤1000000000:=by have:=h.ol;rw[this,List.length_map]at hl;exact hl
 have k3:zad w (some ⟨b,3,Option.none⟩)=some (.slice wa nw.length wc):=zaa h.h rfl
 have k0:zad w (some ⟨b,0,Option.none⟩)=some ov:=zaa h.h rfl
 have qn:zar w (some ⟨b,1,Option.none⟩) 3=some [vi nl,.bool nb,.slice wa nw.length wc]:=by
  have h7:=zal (n:=7) (l:=[ov,vi nl,.bool nb,.slice wa nw.length wc,vi ln,.bool bg,.slice Option.none 0 0]) h.h rfl
  have h6:=zbI (m:=1) (k:=6) h7
  rw[zaZ]at h6
  exact zgP (m:=3) (k:=3) h6
 have z3:∀v∈([vi 0,.bool false,.slice Option.none 0 0]:List Value),one v=true:=fun v hv=>by simp at hv;rcases hv with rfl|rfl|rfl<;>rfl
 refine enter Tryz.func94 Tryz.ntmps94 rfl rfl ?_
 by_cases hn:nw=[]
 ·have d:decide ((0:Int)<(nw.length:Int))=false:=decide_eq_false (by rw[hn];simp)
  rw[if_pos hn]
  refine go (an3 k3 d Nat.zero_add) ?_
  refine rq ?_;intro gd K hgd hK
  try simp only[go_sem]
  refine⟨by kernel_rfl,?_⟩
  rw[show bdV Tryz.prog 122 []=some (.agg #[vi 0,.bool false,.slice Option.none 0 0]) from by kernel_rfl]
  try simp (disch:=first|omega|assumption|rfl) only[go_sem,Nat.zero_add]
  refine zeG (P:=Tryz.prog) (t:=122) [ov] [vi nl,.bool nb,.slice wa nw.length wc] (B:=[vi ln,.bool bg,.slice Option.none 0 0]) (l:=[vi 0,.bool false,.slice Option.none 0 0]) h.h rfl z3 rfl rfl ?_
  intro w2 hs2 hb2 hk2
  try simp (disch:=first|omega|assumption|rfl) only[go_sem,Nat.zero_add]
  refine zaq (P:=Tryz.prog) rfl rfl rfl hb2 (by simp) (by simp) ?_
  intro w3 hs3 hb3 hk3
  try simp only[go_sem]
  refine hK _ _ ?_;clear hK hgd;clear K;try clear gd
  refine go trivial ?_
  have hnil:nw=[]:=hn
  subst hnil
  refine zaw (by simp) rfl ⟨⟨ov,.slice Option.none 0 0,G,?_⟩,(hk2.mono fun i _ e=>by omega).trans (hk3.mono fun i _ e=>by omega)⟩
  have hkk:Keep (fun i=>i=b) w w3:=hk2.trans hk3
  exact⟨hb3,hlt,Nat.le_trans hle hkk.size,h.oo.keep hkk fun i hi e=>by have:=(h.oo.ge hi).1;omega,Owns.nil _ _ _ _ _,fun i _ e=>(by cases e),h.ol,fun y hy=>(h.fr y hy).step hkk (fun i e=> .inl (by omega)) fun i hi=>by
   rcases hi with hi|hi|hi
   ·exact .inl (.inl hi)
   ·exact .inl (.inr (.inl hi))
   ·cases hi⟩
 ·have d:decide ((0:Int)<(nw.length:Int))=true:=decide_eq_true (by have:nw.length≠0:=fun e=>hn (List.length_eq_zero_iff.1 e);omega)
  rw[if_neg hn]
  refine go (an3 k3 d Nat.zero_add) ?_
  refine zas (Q:=fun e' σ' ds' v'=>e'= .normal∧ds'=[]∧σ' 0= .pointer (some ⟨b,0,Option.none⟩)∧∃ov' y,Owns 3 gE B y 122 ov' (G++ [(⟨nl,nb,nw⟩,[vi nl,.bool nb,.slice wa nw.length wc])])∧(∃x0,Ext w x0∧Keep (fun i=>some i=ov.ownBlock) x0 y∧∀i,some i=ov'.ownBlock→some i=ov.ownBlock∨x0.heap.size≤i)∧Keep (fun i=>i=b) y v'∧v'.heap[b]? =some (.cells #[ov',vi nl,.bool nb,.slice wa nw.length wc,vi ln,.bool bg,.slice Option.none 0 0] 158 (0,0))) ?_ ?_
  ·refine zaF (fun i=>i==10||i==13) [(0,true),(1,true),(2,true),(3,true),(4,true),(5,true),(6,true),(7,true),(8,true),(9,false),(10,false),(11,true),(12,true),(13,false)] NoS mixed (by kernel_rfl) ?_;intro gd K x hgd hx hxe hK;have hx0:=zaT hxe;clear hxe
   have k0x:=zab hx0 k0
   have qnx:=zah hx0 qn
   have hzx:=h.ext hx0
   simp (disch:=first|omega|assumption|rfl) only[go_sem,k0x,qnx,Nat.zero_add]
   refine zc2 zjZ (l:=[vi nl,.bool nb,.slice wa nw.length wc]) (a:=(⟨nl,nb,nw⟩,[vi nl,.bool nb,.slice wa nw.length wc])) rfl rfl rfl rfl ⟨rfl,rfl,fun v hv=>by simp at hv;rcases hv with rfl|rfl|rfl<;>rfl⟩ (by decide) ?_
   intro y1 hy1 hys1 ho1
   refine⟨.inr hy1.keep,?_⟩
   have hzy:=hzx.ext hy1
   simp (disch:=first|omega|assumption|rfl) only[go_sem]
   refine zbU zjZ hzy.oo ho1.rows rfl rfl rfl rfl rfl rfl (by decide) (vr0) (vr0) (by simp;omega) (by decide) hzy.le ?_
   intro ov' y2 ho2 hX2 hk2 hb2
   refine⟨.inl rfl,?_⟩
   have h1v:one ov'=true:=by rcases ho2.cases with ⟨e,_⟩| ⟨_,_,_,e,_⟩<;>rw[e]<;>rfl
   have hby2:=(hk2.block b (by have:=hzy.le;omega) fun e=>by have:=(hzy.oo.ge e).1;omega).trans hzy.h
   simp (disch:=first|omega|assumption|rfl) only[go_sem,Nat.zero_add]
   refine zaq (P:=Tryz.prog) rfl rfl h1v hby2 (by simp) (by simp) ?_
   intro y3 hs3 hb3 hk3
   refine⟨.inl rfl,?_⟩
   simp (disch:=first|omega|assumption|rfl) only[go_sem]
   refine hK _ _ ?_;clear hK hgd;clear K;try clear gd
   exact⟨rfl,rfl,vr0,ov',y2,ho2,⟨y1,hx0.trans hy1,hk2,hb2⟩,hk3,hb3⟩
  rintro _ σ1 _ v1 ⟨rfl,rfl,s0,ov',y,ho,⟨x0,hE0,hk,hb2⟩,hky,hbv⟩
  have hx:=h.ext hE0
  have h1v:one ov'=true:=by rcases ho.cases with ⟨e,_⟩| ⟨_,_,_,e,_⟩<;>rw[e]<;>rfl
  refine go s0 ?_
  refine rq ?_;intro gd K hgd hK
  try simp (disch:=first|omega|assumption|rfl) only[go_sem,s0]
  refine⟨by kernel_rfl,?_⟩
  rw[show bdV Tryz.prog 122 []=some (.agg #[vi 0,.bool false,.slice Option.none 0 0]) from by kernel_rfl]
  try simp (disch:=first|omega|assumption|rfl) only[go_sem,s0,Nat.zero_add]
  refine zeG (P:=Tryz.prog) (t:=122) [ov'] [vi nl,.bool nb,.slice wa nw.length wc] (B:=[vi ln,.bool bg,.slice Option.none 0 0]) (l:=[vi 0,.bool false,.slice Option.none 0 0]) hbv rfl z3 rfl rfl ?_
  intro w2 hs2 hb2' hk2
  try simp (disch:=first|omega|assumption|rfl) only[go_sem,s0,Nat.zero_add]
  refine zaq (P:=Tryz.prog) rfl rfl rfl hb2' (by simp) (by simp) ?_
  intro w3 hs3 hb3 hk3
  try simp only[go_sem]
  refine hK _ _ ?_;clear hK hgd;clear K;try clear gd
  refine go trivial ?_
  refine zaw (by simp) rfl ⟨⟨ov',.slice Option.none 0 0,_,TR.end_ hx ho hk hb2 ((hky.trans hk2).trans hk3) hb3⟩,?_⟩
  exact((((hE0.mono fun _ _ h=>h.elim).trans (hk.mono fun i _ e=>by have:=(hx.oo.ge e).1;omega)).trans (hky.mono fun i _ e=>by omega)).trans (hk2.mono fun i _ e=>by omega)).trans (hk3.mono fun i _ e=>by omega)
theorem zfg{s:Lab}{ws:List (Lab×Bool)}(h:Toks s ws):ws.length≤s.length:=by
 induction h with
 |nil=>exact Nat.le_refl _
 |blank c s ws _ _ ih=>simp;omega
 |semi s=>simp
 |word p s ws hp _ _ _ ih=>
  cases p with
  |nil=>exact absurd rfl hp
  |cons c p=>simp;omega
 |quot q s ws _ _ ih=>simp;omega
theorem zma(c:UInt8)(n:Nat)(hn:n<256):decide ((c.toNat:Int)=(n:Int))=decide (c=UInt8.ofNat n):=decide_eq_decide.2 ⟨fun h=>UInt8.toNat_inj.1 (by rw[UInt8.toNat_ofNat_of_lt' hn];omega),fun h=>by rw[h,UInt8.toNat_ofNat_of_lt' hn]⟩
def zjo(c:UInt8):Prop:=decide ((c.toNat:Int)=32)=false∧decide ((c.toNat:Int)=9)=false∧decide ((c.toNat:Int)=59)=false∧decide ((c.toNat:Int)=40)=false∧decide ((c.toNat:Int)=41)=false∧decide ((c.toNat:Int)=34)=false
theorem not_stop{c:UInt8}(h:c∉stopsL):zjo c:=
 zcA (P:=fun c=>c∉stopsL→zjo c) (by unfold zjo;decide+kernel) c h
theorem znb{c:UInt8}{p:Lab}(h:BareW (c::p)):c∉stopsL:=by
 cases h with
 |pair d r _=>decide
 |one _ _ h _ _=>exact h
theorem read_ok{s:Lab}{ws:List (Lab×Bool)}(h:TRx B w b out 0 nb [] ln bg)(hT:Toks s ws)(hl:s.length≤100000000):Fn Tryz.prog 93 #[.pointer (some ⟨b,0,Option.none⟩),vs s] w (fun v w'=>v=vi 0∧TRx B w' b out (if ws=[] then 0 else ln) nb ws ln bg∧Keep (fun i=>i=b∨B≤i) w w'):=by
 have hwl:=zfg hT
 have hbl:b<B∧B≤w.heap.size:=by
  obtain⟨ov,wv,G,h⟩:=h
  exact⟨h.lt,h.le⟩
 have i0:(0:Int)≤0:=by decide
 have i1:(0:Int)≤1:=by decide
 have t1:(1:Int).toNat=1:=rfl
 have e00:decide ((0:Int)=0)=true:=rfl
 refine enter Tryz.func93 Tryz.ntmps93 rfl rfl ?_
 refine go trivial ?_
 refine zaD (fun m σ ds v=>ds=[]∧∃s' ws' nw',m=s'.length∧s'.length≤s.length∧Toks s' ws'∧nw'++ws'=ws∧(σ 0= .pointer (some ⟨b,0,Option.none⟩)∧σ 1=vs s')∧TRx B v b out (if nw'=[] then 0 else ln) nb nw' ln bg∧Keep (fun i=>i=b∨B≤i) w v) s.length ?_ ?_
 ·exact⟨rfl,s,ws,[],rfl,Nat.le_refl _,hT,rfl,⟨vr0,vr0⟩,h,Keep.refl _ _⟩
 rintro m σ ds v ⟨rfl,s',ws',nw',hm,hsl,hT',hws,⟨s0,s1⟩,hR,hK⟩
 have hnl:nw'.length≤100000000:=by
  have:=congrArg List.length hws
  rw[List.length_append]at this
  omega
 by_cases hs0:s'=[]
 ·subst hs0
  have hw0:ws'=[]:=by
   generalize hz:([]:Lab)=z at hT'
   cases hT' with
   |nil=>rfl
   |blank c s ws _ _=>cases hz
   |semi s=>cases hz
   |word p s ws hp _ _ _=>exact absurd (List.append_eq_nil_iff.1 hz.symm).1 hp
   |quot q s ws _ _=>cases hz
  rw[hw0,List.append_nil]at hws
  subst hws
  have d:decide (([]:Lab)=[])=true:=rfl
  refine go (an3 s0 s1 d) ?_
  refine zaf (.inr rfl) Tryz.ntmps93 rfl (zac (vr0) zae) ?_
  exact⟨rfl,hR,hK⟩
 have d:decide (s'=[])=false:=decide_eq_false hs0
 have hsp:0<s'.length:=List.length_pos_iff.2 hs0
 have r2:(0:Int)<(s'.length:Int):=by omega
 have hin:(0:Int).toNat<s'.length:=hsp
 -- a word is laid
 have lay:∀{v1:World},Ext v v1→TRx B v1 b out (if nw'=[] then 0 else ln) nb nw' ln bg∧Keep (fun i=>i=b∨B≤i) w v1:=fun hE=>⟨hR.ext hE,hK.trans (hE.mono fun _ _ h=>h.elim)⟩
 have onw:∀q∈([vs [],.bool false]:List Value),one q=true:=fun q hq=>by simp at hq;rcases hq with rfl|rfl<;>rfl
 refine go (an3 s0 s1 d) ?_
 refine rq ?_;intro gd K hgd hK
 try simp only[go_sem]
 refine⟨by kernel_rfl,?_⟩
 rw[show bdV Tryz.prog 164 []=some (.agg #[vs [],.bool false]) from by kernel_rfl]
 try simp only[go_sem]
 refine zbm (P:=Tryz.prog) (l:=[vs [],.bool false]) rfl onw rfl rfl ?_
 intro v1 hE1 hs1' hA
 try simp only[go_sem]
 refine hK _ _ ?_;clear hK hgd;clear K;try clear gd
 obtain⟨p7,hp7⟩:∃p,v.heap.size=p:=⟨_,rfl⟩
 rw[hp7]at hA hs1' ⊢
 obtain⟨hR1,hK1⟩:=lay hE1
 have hbp:B≤p7:=by have:=hK.size;omega
 have f0:zad v1 (some ⟨p7,0,Option.none⟩)=some (vs []):=zaa hA rfl
 have f1:zad v1 (some ⟨p7,1,Option.none⟩)=some (.bool false):=zaa hA rfl
 cases hT' with
 |nil=>exact absurd rfl hs0
 |blank c s2 _ hc hT''=>
  have l1:(1:Int)≤((c::s2).length:Int):=by simp;omega
  have hdr:(c::s2).drop 1=s2:=rfl
  rcases hc with rfl|rfl
  ·have hb2:((32:UInt8)::s2)[(0:Int).toNat]'hin=32:=rfl
   have hbc:zao 32= .int .u8 32:=rfl
   have d1:decide ((32:Int)=32)=true:=rfl
   refine go (an8 s0 s1 i0 r2 hb2 hbc d1 e00) ?_
   refine rgg [(2,47)] (an4 f1 f0 Nat.zero_add (show decide (([]:Lab)=[])=true from rfl)) ?_
   refine go (an6 s0 s1 i1 l1 t1 hdr) ?_
   refine⟨s2.length,by rw[hm];simp,rfl,s2,_,nw',rfl,by simp at hsl;omega,hT'',hws,⟨(vq1 s0),(vq1 hdr)⟩,hR1,hK1⟩
  ·have hb2:((9:UInt8)::s2)[(0:Int).toNat]'hin=9:=rfl
   have hbc:zao 9= .int .u8 9:=rfl
   have d0:decide ((9:Int)=32)=false:=rfl
   have d1:decide ((9:Int)=9)=true:=rfl
   refine go (an9 s0 s1 i0 r2 hb2 hbc d0 d1 e00) ?_
   refine rgg [(2,47)] (an4 f1 f0 Nat.zero_add (show decide (([]:Lab)=[])=true from rfl)) ?_
   refine go (an6 s0 s1 i1 l1 t1 hdr) ?_
   refine⟨s2.length,by rw[hm];simp,rfl,s2,_,nw',rfl,by simp at hsl;omega,hT'',hws,⟨(vq1 s0),(vq1 hdr)⟩,hR1,hK1⟩
 |semi s2=>
  have hb2:((59:UInt8)::s2)[(0:Int).toNat]'hin=59:=rfl
  have hbc:zao 59= .int .u8 59:=rfl
  have d0:decide ((59:Int)=32)=false:=rfl
  have d1:decide ((59:Int)=9)=false:=rfl
  have d2:decide ((59:Int)=59)=true:=rfl
  refine go (an9 s0 s1 i0 r2 hb2 hbc d0 d1 d2) ?_
  rw[List.append_nil]at hws
  subst hws
  refine zaf (.inr rfl) Tryz.ntmps93 rfl (zac (vr0) zae) ?_
  exact⟨rfl,hR1,hK1⟩
 |quot q s2 ws2 hq hT''=>
  have hb2:((34:UInt8)::(q++34::s2))[(0:Int).toNat]'hin=34:=rfl
  have hbc:zao 34= .int .u8 34:=rfl
  have d0:decide ((34:Int)=32)=false:=rfl
  have d1:decide ((34:Int)=9)=false:=rfl
  have d2:decide ((34:Int)=59)=false:=rfl
  have d3:decide ((34:Int)=40)=false:=rfl
  have d4:decide ((34:Int)=41)=false:=rfl
  have d5:decide ((34:Int)=34)=true:=rfl
  have hlq:((34:UInt8)::(q++34::s2)).length=q.length+2+s2.length:=by simp;omega
  refine go (an9 s0 s1 i0 r2 hb2 hbc d0 d1 (an4 d2 d3 d4 d5)) ?_
  refine rq ?_;intro gd K hgd hK
  try simp (disch:=first|omega|assumption|rfl) only[go_sem,Nat.zero_add]
  refine zaq (P:=Tryz.prog) rfl rfl rfl hA (by simp) (by simp) ?_
  intro v2 hs2 hA2 hk2
  try simp only[go_sem]
  refine hK _ _ ?_;clear hK hgd;clear K;try clear gd
  refine go trivial ?_
  refine rq ?_;intro gd K hgd hK
  try simp (disch:=first|omega|assumption|rfl) only[go_sem,s1]
  refine Fn.mono (zlV v2 hq (by omega)) ?_
  rintro _ v2' ⟨rfl,hv2'⟩
  subst hv2'
  try simp (disch:=first|omega|assumption|rfl) only[go_sem,Nat.add_zero]
  refine zaq (P:=Tryz.prog) rfl rfl rfl hA2 (by simp) (by simp) ?_
  intro v3 hs3 hA3 hk3
  try simp only[go_sem]
  refine hK _ _ ?_;clear hK hgd;clear K;try clear gd
  have n0:(0:Int)≤((q.length+2:Nat):Int):=by omega
  have n1:((q.length+2:Nat):Int)≤(((34:UInt8)::(q++34::s2)).length:Int):=by omega
  have hdr:((34:UInt8)::(q++34::s2)).drop (q.length+2)=s2:=by
   show(q++34::s2).drop (q.length+1)=s2
   rw[show q++34::s2=(q++ [34])++s2 by simp]
   exact List.drop_left' (by simp)
  have hz:zar v3 (some ⟨p7,0,Option.none⟩) 2=some [vs q,.bool true]:=zal (n:=2) (l:=[vs q,.bool true]) hA3 rfl
  have g1:zad v3 (some ⟨p7,1,Option.none⟩)=some (.bool true):=zaa hA3 rfl
  have g0:zad v3 (some ⟨p7,0,Option.none⟩)=some (vs q):=zaa hA3 rfl
  have hkv:Keep (fun i=>i=p7) v1 v3:=hk2.trans hk3
  have hR3:TRx B v3 b out (if nw'=[] then 0 else ln) nb nw' ln bg:=hR.ext (Keep.to_ext hE1 rfl (fun i hi=>by omega) hkv)
  refine go (an3 s0 s1 e00) ?_
  refine rgg [(2,47)] (an2 g1 Nat.zero_add) ?_
  refine go trivial ?_
  refine rc (an3 s0 hz trivial) (put_ok hR3 (by omega)) ?_
  rintro _ v4 ⟨hR4,hk4⟩
  refine rgo (an9 s0 s1 n0 n1 Int.toNat_natCast hdr trivial trivial trivial) ?_
  refine⟨_,?_,rfl,s2,_,nw'++ [(q,true)],rfl,by omega,hT'',by rw[←hws];simp,⟨(vq1 s0),(vq1 hdr)⟩,?_,(hK1.trans (hkv.mono fun i _ e=>by omega)).trans hk4⟩
  ·rw[hm];omega
  ·rw[if_neg (by simp)]
   by_cases hn:nw'=[]
   ·rw[if_pos hn]at hR4;exact hR4
   ·rw[if_neg hn,if_neg hn]at hR4;exact hR4
 |word p s2 ws2 hp0 hp hE' hT''=>
  obtain⟨c,p',hpe⟩:=List.exists_cons_of_ne_nil hp0
  obtain⟨d0,d1,d2,d3,d4,d5⟩:=not_stop (znb (hpe▸hp))
  obtain⟨z,hz⟩:∃z,p++s2=z:=⟨_,rfl⟩
  have hbare:Fn Tryz.prog 128 #[vs z] v1 (fun v w'=>v= .tuple #[vs p,vi p.length,vi 0]∧w'=v1):=hz▸bare_ok v1 hp hE' (by omega)
  have hzl:z.length=p.length+s2.length:=by rw[←hz,List.length_append]
  have hzd:z.drop p.length=s2:=by rw[←hz];exact List.drop_left' rfl
  have hzc:z=c::(p'++s2):=by rw[←hz,hpe];rfl
  rw[hz]at hm hsl r2 d s1
  have hin:(0:Int).toNat<z.length:=by rw[hzl,hpe];simp;omega
  have hb2:z[(0:Int).toNat]'hin=c:=by subst hzc;rfl
  clear hz hzc
  have hbc:zao c= .int .u8 (c.toNat:Int):=rfl
  refine go (an9 s0 s1 i0 r2 hb2 hbc d0 d1 (an4 d2 d3 d4 d5)) ?_
  refine rq ?_;intro gd K hgd hK
  try simp (disch:=first|omega|assumption|rfl) only[go_sem,s1]
  refine Fn.mono hbare ?_
  rintro _ v2' ⟨rfl,hv2'⟩
  rw[hv2']
  clear hv2' v2'
  try simp (disch:=first|omega|assumption|rfl) only[go_sem,Nat.add_zero]
  refine zaq (P:=Tryz.prog) rfl rfl rfl hA (by simp) (by simp) ?_
  intro v3 hs3 hA3 hk3
  try simp only[go_sem]
  refine hK _ _ ?_;clear hK hgd;clear K;try clear gd
  have n0:(0:Int)≤(p.length:Int):=by omega
  have n1:(p.length:Int)≤(z.length:Int):=by omega
  have hdr:=hzd
  have dne:decide (p=([]:Lab))=false:=decide_eq_false hp0
  have hz:zar v3 (some ⟨p7,0,Option.none⟩) 2=some [vs p,.bool false]:=zal (n:=2) (l:=[vs p,.bool false]) hA3 rfl
  have g1:zad v3 (some ⟨p7,1,Option.none⟩)=some (.bool false):=zaa hA3 rfl
  have g0:zad v3 (some ⟨p7,0,Option.none⟩)=some (vs p):=zaa hA3 rfl
  have hkv:Keep (fun i=>i=p7) v1 v3:=hk3
  have hR3:TRx B v3 b out (if nw'=[] then 0 else ln) nb nw' ln bg:=hR.ext (Keep.to_ext hE1 rfl (fun i hi=>by omega) hkv)
  refine go (an3 s0 s1 e00) ?_
  refine rgg [(2,47)] (an4 g1 g0 Nat.zero_add dne) ?_
  refine go trivial ?_
  refine rc (an3 s0 hz trivial) (put_ok hR3 (by omega)) ?_
  rintro _ v4 ⟨hR4,hk4⟩
  refine rgo (an9 s0 s1 n0 n1 Int.toNat_natCast hdr trivial trivial trivial) ?_
  refine⟨_,?_,rfl,s2,_,nw'++ [(p,false)],rfl,by omega,hT'',by rw[←hws];simp,⟨(vq1 s0),(vq1 hdr)⟩,?_,(hK1.trans (hkv.mono fun i _ e=>by omega)).trans hk4⟩
  ·have:=List.length_pos_iff.2 hp0;omega
  ·rw[if_neg (by simp)]
   by_cases hn:nw'=[]
   ·rw[if_pos hn]at hR4;exact hR4
   ·rw[if_neg hn,if_neg hn]at hR4;exact hR4
end
theorem znf(w:World){l:Lab}(h:l.getLast?≠some 13)(hl:l.length≤4000000000):Fn Tryz.prog 125 #[vs l,vs [13]] w (fun v w'=>v=vs l∧w'=w):=by
 have h2:Fn Tryz.prog 171 #[vs l,vs [13]] w (fun v w'=>v= .bool false∧w'=w):=by
  refine enter Tryz.func171 Tryz.ntmps171 rfl rfl ?_
  refine go trivial ?_
  by_cases h0:l=[]
  ·have d:decide (((1:Nat):Int)≤(l.length:Int))=false:=decide_eq_false (by rw[h0];simp)
   refine rgg [(5,10)] (show decide ((([13]:Lab).length:Int)≤(l.length:Int))=false from d) ?_
   refine go trivial ?_
   refine rt0 Tryz.ntmps171 ?_
   exact⟨rfl,rfl⟩
  ·have hp:=List.length_pos_iff.2 h0
   have d:decide ((([13]:Lab).length:Int)≤(l.length:Int))=true:=decide_eq_true (by simp;omega)
   have e1:(l.length:Int) - (([13]:Lab).length:Int)=((l.length - 1:Nat):Int):=by simp;omega
   have e2:(0:Int)≤((l.length - 1:Nat):Int):=by omega
   have e3:((l.length - 1:Nat):Int)≤(l.length:Int):=by omega
   have d2:decide (l.drop (l.length - 1)=[13])=false:=decide_eq_false fun e=>h (by
    rw[List.getLast?_eq_getElem?,List.getElem?_eq_getElem (by omega)]
    rw[List.drop_eq_getElem_cons (by omega)]at e
    injection e with e _
    rw[e])
   refine rgg [(5,10)] (an6 d e1 e2 e3 Int.toNat_natCast d2) ?_
   refine go trivial ?_
   refine rt0 Tryz.ntmps171 ?_
   exact⟨rfl,rfl⟩
 have h1:Fn Tryz.prog 153 #[vs l,vs [13]] w (fun v w'=>v=vs l∧w'=w):=by
  refine enter Tryz.func153 Tryz.ntmps153 rfl rfl ?_
  refine go trivial ?_
  refine rc trivial h2 ?_
  rintro _ _ ⟨rfl,rfl⟩
  refine rgo trivial ?_
  refine rt0 Tryz.ntmps153 ?_
  exact⟨rfl,rfl⟩
 refine enter Tryz.func125 Tryz.ntmps125 rfl rfl ?_
 refine go trivial ?_
 refine rc trivial h1 ?_
 rintro _ _ ⟨rfl,rfl⟩
 refine rgo trivial ?_
 refine rt0 Tryz.ntmps125 ?_
 exact⟨rfl,rfl⟩
def zgm(l:Lab):Prop:=(10:UInt8)∉l∧l.getLast?≠some 13
def za0(ls:List Lab):Lab:=ls.flatMap fun l=>l++ [10]
def numL(n:Nat):List Lab→List (Nat×Lab)
 | []=>[]
 |l::ls=>(n,l)::numL (n+1) ls
theorem zbT(l:Lab)(ls:List Lab):za0 (l::ls)=l++10::za0 ls:=by
 unfold za0
 rw[List.flatMap_cons,List.append_assoc]
 rfl
theorem zix(c:UInt8)(r:Lab):∀p:Lab,c∉p→cutB c (p++c::r)=(p,r,true)
 | [],_=>by unfold cutB;rw[List.nil_append];simp
 |b::p,h=>by
  have hb:¬b=c:=fun e=>h (by rw[e];exact List.mem_cons_self ..)
  have ih:=zix c r p fun e=>h (List.mem_cons_of_mem _ e)
  rw[List.cons_append,cutB,if_neg hb,ih]
def encLn(_:Nat)(x:Nat×Lab)(_:World)(args:Array Value):Prop:=args=#[vi (x.1:Nat),vs x.2]
theorem zns(w:World)(s:Lab):Fn Tryz.prog 92 #[vs s] w (fun u w'=>u= .func (.func 123) #[] #[.pointer (some ⟨w.heap.size,0,Option.none⟩)]∧Ext w w'∧w'.heap.size=w.heap.size+1∧w'.heap[w.heap.size]? =some (.cells #[vs s] 9 (0,0))):=by
 refine enter Tryz.func92 Tryz.ntmps92 rfl rfl ?_
 repeat refine c_r ?_
 refine rg0 ?_
 repeat refine c_r ?_
 refine zan ?_
 intro w1 hE1 hs1 hA
 refine go trivial ?_
 refine rt0 Tryz.ntmps92 ?_
 exact⟨rfl,hE1,hs1,hA⟩
theorem linesIt{w0 W0:World}{C:Nat→Prop}{b:Nat}{ls:List Lab}(hX:WX w0)(hE0:Ext w0 W0)(hb:W0.heap[b]? =some (.cells #[vs (za0 ls)] 9 (0,0)))(hbC:¬C b)(hb0:w0.heap.size≤b)(hC:∀i,C i→w0.heap.size≤i)(hn:w0.heap.size≤W0.heap.size)(hok:∀l∈ls,zgm l)(hl:(za0 ls).length≤3900000000)(hll:ls.length≤1000000000):
  IterT Tryz.prog 123 #[.pointer (some ⟨b,0,Option.none⟩)] W0 W0.heap.size C (fun i=>i=b) 0 (fun pre x=>∃suf,numL 1 ls=pre++x::suf) (fun xs=>xs=numL 1 ls) encLn:=by
 intro lp J Jx W hW hnW hJ hJx hY h0
 have hbl:b<W0.heap.size:=(Array.getElem?_eq_some_iff.1 hb).1
 have hbW:=Ext.at hW hb
 have hEW:=hE0.trans hW
 have old:∀{v:World},KeepB W0.heap.size (fun i=>C i∨i=b) W v→Ext w0 v:=fun {v} hk=>zif hEW hk hn fun i hi=>hi.elim (hC i) fun e=>by omega
 refine enter Tryz.func123 Tryz.ntmps123 rfl rfl ?_
 refine go trivial ?_
 refine zaD (fun m σ ds v=>ds=[]∧∃n rs pre,m=rs.length∧n+rs.length=ls.length+1∧numL 1 ls=pre++numL n rs∧(∀l∈rs,zgm l)∧(za0 rs).length≤3900000000∧(σ 0= .func (.yield lp) #[] #[]∧σ 1= .pointer (some ⟨b,0,Option.none⟩)∧σ 3=vi n)∧J pre v∧KeepB W0.heap.size (fun i=>C i∨i=b) W v∧v.heap[b]? =some (.cells #[vs (za0 rs)] 9 (0,0))) ls.length ?_ ?_
 ·exact⟨rfl,1,ls,[],rfl,by omega,rfl,hok,hl,⟨vr0,vr0,vr0⟩,h0,KeepB.refl _ _ _,hbW⟩
 rintro m σ ds v ⟨rfl,n,rs,pre,hm,hnr,hpre,hrs,hrl,⟨s0,s1,s3⟩,hj,hK,hbv⟩
 have c0:zad v (some ⟨b,0,Option.none⟩)=some (vs (za0 rs)):=zaa hbv rfl
 cases rs with
 |nil=>
  have d:decide (za0 []=[])=true:=rfl
  refine go (an5 s0 s1 s3 c0 d) ?_
  have e:numL 1 ls=pre:=by rw[hpre];simp[numL]
  exact zaw (by simp) rfl (.inl ⟨_,rfl,e▸hj⟩)
 |cons l rs=>
  obtain⟨l1,l2⟩:=hrs l (List.mem_cons_self ..)
  have hcut:cutB 10 (za0 (l::rs))=(l,za0 rs,true):=by rw[zbT];exact zix 10 _ l l1
  have hlen:(za0 (l::rs)).length=l.length+1+(za0 rs).length:=by rw[zbT];simp;omega
  have d:decide (za0 (l::rs)=[])=false:=decide_eq_false fun e=>by rw[e,List.length_nil]at hlen;omega
  have hC1:Fn Tryz.prog 124 #[vs (za0 (l::rs)),vs [10]] v (fun u v'=>u= .tuple #[vs l,vs (za0 rs),.bool true]∧Ext v v'):=by
   have h1:=znA (hX.ext (old hK)) (za0 (l::rs)) 10 (by omega)
   rw[hcut]at h1
   exact h1
  have n1:(n:Int)+1=((n+1:Nat):Int):=by push_cast;rfl
  have hpre2:numL 1 ls=pre++(n,l)::numL (n+1) rs:=hpre
  refine go (an5 s0 s1 s3 c0 d) ?_
  refine rc (an2 s1 c0) hC1 ?_
  rintro _ v1 ⟨rfl,hE1⟩
  refine rgo (an3 s0 s1 s3) ?_
  refine rc trivial (znf v1 l2 (by omega)) ?_
  rintro _ v1' ⟨rfl,hv1⟩
  rw[hv1]
  clear hv1 v1'
  refine rgo (an3 s0 s1 s3) ?_
  have hK1:KeepB W0.heap.size (fun i=>C i∨i=b) W v1:=hK.trans (hE1.toB (by have:=hK.size;omega) (fun _ _ h=>h.elim))
  have hb1:=Ext.at hE1 hbv
  refine rq ?_;intro gd K hgd hK
  try simp (disch:=first|omega|assumption|rfl) only[go_sem,s0,s3]
  refine Yld.mono (hY pre (n,l) v1 _ ⟨_,hpre2⟩ (hJ _ _ _ hj (hE1.mono fun _ _ h=>h.elim)) (by have:=hK1.size;omega) hK1 rfl) ?_
  rintro r B (⟨rfl,hj',hk',_⟩| ⟨rfl,hjx⟩)
  ·try simp only[go_sem]
   refine hK _ _ ?_;clear hK hgd;clear K;try clear gd
   have hbB:=(hk'.block b hbl hbC).trans hb1
   refine go (an3 s0 s1 s3) ?_
   refine rq ?_;intro gd K hgd hK
   try simp (disch:=first|omega|assumption|rfl) only[go_sem,s1]
   refine zaq (P:=Tryz.prog) rfl rfl rfl hbB (by simp) (by simp) ?_
   intro v2 hs2 hb2 hk2
   try simp only[go_sem]
   refine hK _ _ ?_;clear hK hgd;clear K;try clear gd
   refine go (an4 s0 s1 s3 n1) ?_
   refine⟨rs.length,by rw[hm];simp,rfl,n+1,rs,pre++ [(n,l)],rfl,by simp at hnr;omega,by rw[hpre2];simp,fun x hx=>hrs x (List.mem_cons_of_mem _ hx),by omega,⟨(vq1 s0),(vq1 s1),(vq1 n1)⟩,hJ _ _ _ hj' (hk2.mono fun i _ e=> .inr e),?_,hb2⟩
   exact(hK1.trans (hk'.mono (Nat.le_refl _) fun i _ h=> .inl h)).trans (hk2.toB (by have:=hK1.size;have:=hk'.size;omega) fun i _ e=> .inr e)
  ·try simp only[go_sem]
   refine hK _ _ ?_;clear hK hgd;clear K;try clear gd
   refine go trivial ?_
   exact zaw (by simp) rfl (.inr ⟨_,_,⟨_,hpre2⟩,hjx⟩)
theorem num_ok{W0 w:World}{b:Nat}{t:Lab}{q:Bool}{ws:List (Lab×Bool)}{ov:Value}{e:Int}(hW:WX W0)(h:Rdr W0 w b ((t,q)::ws) ov e)(hl:ws.length≤1000000)(ht:t.length≤1000000000)(most:Nat)(hm:most≤4294967295):
  Fn Tryz.prog 226 #[.pointer (some ⟨b,0,Option.none⟩),.int .u64 most] w (fun v w'=>v= .int .u32 (decP most t).1∧Rdr W0 w' b ws ov (zbL (if q=true then zbL e 2 else e) (decP most t).2)∧Keep (fun i=>i=b) w w'):=by
 have hlow:=h.low
 refine enter Tryz.func226 Tryz.ntmps226 rfl rfl ?_
 refine go trivial ?_
 refine rc trivial (zdS h hl) ?_
 rintro _ w1 ⟨rfl,hR1,hk1⟩
 refine rd trivial (zca (hW.ext hR1.ext) t most (by omega) (by omega)) ?_
 rintro _ w2 ⟨rfl,hE2⟩
 refine rgo trivial ?_
 refine rc trivial (zdn (hR1.extx hE2) (decP most t).2) ?_
 rintro _ w3 ⟨hR3,hk3⟩
 have hdl:=zdo most t
 obtain⟨v,hv⟩:∃v,(decP most t).1=v:=⟨_,rfl⟩
 rw[hv]at hdl ⊢
 refine rgo trivial ?_
 refine rt0 Tryz.ntmps226 ?_
 exact⟨rfl,hR3,(hk1.trans (hE2.mono fun _ _ h=>h.elim)).trans hk3⟩
theorem zmh{W0 w:World}{b:Nat}{t:Lab}{q:Bool}{ws:List (Lab×Bool)}{ov:Value}{o:Nm}{e:Int}(h:Rdr W0 w b ((t,q)::ws) ov e)(hl:ws.length≤1000000)(ht:t.length≤500000000)(ho:Row W0 ov (o.map vs))(hoT:NmT o):
  Fn Tryz.prog 227 #[.pointer (some ⟨b,0,Option.none⟩)] w (fun v w'=>Row w' v ((za6 t o).1.map vs)∧BlkB w.heap.size w' v∧Rdr W0 w' b ws ov (zbL (if q=true then zbL e 2 else e) (za6 t o).2)∧Keep (fun i=>i=b) w w'):=by
 refine enter Tryz.func227 Tryz.ntmps227 rfl rfl ?_
 refine go trivial ?_
 obtain⟨wv,hb,hr⟩:=h.at'
 have c1:zad w (some ⟨b,1,Option.none⟩)=some ov:=zaa hb rfl
 obtain⟨e1,he1⟩:∃e1,(if q=true then zbL e 2 else e)=e1:=⟨_,rfl⟩
 rw[he1]
 have hho:=h.one
 refine zas (Q:=fun e' σ' ds' v'=>e'= .normal∧ds'=[]∧(∃nv,σ' 3=nv∧Row v' nv ((za6 t o).1.map vs)∧BlkB w.heap.size v' nv)∧σ' 4=vi (za6 t o).2∧σ' 0= .pointer (some ⟨b,0,Option.none⟩)∧Rdr W0 v' b ws ov e1∧Keep (fun i=>i=b) w v') ?_ ?_
 ·refine znd (fun i=>i==1||i==5||i==6) (.run [(0,true),(2,true),(3,true),(4,true)] (.fork 7 [1,5] (fun i=>if i=1 then(.run [(5,false),(6,false),(7,true),(8,true),(9,true),(10,true),(11,true)] .fin) else(.run [(1,false),(6,false),(7,true),(8,true),(9,true),(10,true),(11,true)] .fin)))) NoS mixed (by kernel_rfl) ?_;intro gd K x hgd hx hxe hK;have hx0:=zaT hxe;clear hxe
  have c1x:=zab hx0 c1
  simp (disch:=first|omega|assumption|rfl) only[go_sem,Nat.zero_add]
  simp only[zeC,zfu];refine⟨?_,?_⟩
  ·simp (disch:=first|omega|assumption|rfl) only[go_sem]
   refine Fn.mono (zdS (h.extx hx0) hl) ?_
   rw[he1]
   rintro _ y1 ⟨rfl,hR1,hk1⟩
   refine⟨.inl rfl,?_⟩
   obtain⟨wv1,hb1,_⟩:=hR1.at'
   have q1:zad y1 (some ⟨b,1,Option.none⟩)=some ov:=zaa hb1 rfl
   simp (disch:=first|omega|assumption|rfl) only[go_sem,q1,Nat.zero_add]
   refine⟨.inl rfl,?_⟩
   refine Fn.mono (zcM y1 t ov o ht (ho.ext hR1.ext) hoT) ?_
   rintro _ y2 ⟨hE2,nv,rfl,hrow,hbk⟩
   refine⟨.inl rfl,?_⟩
   simp (disch:=first|omega|assumption|rfl) only[go_sem]
   refine hK _ _ ?_;clear hK hgd;clear K;try clear gd
   exact⟨rfl,rfl,⟨nv,vr0,hrow,hbk.mono (by have:=hx0.size;have:=hk1.size;omega)⟩,vr0,vr0,hR1.extx hE2,((hx0.mono fun _ _ h=>h.elim).trans hk1).trans (hE2.mono fun _ _ h=>h.elim)⟩
  ·simp (disch:=first|omega|assumption|rfl) only[go_sem,c1x,Nat.zero_add]
   refine⟨.inl rfl,?_⟩
   refine Fn.mono (zdS (h.extx hx0) hl) ?_
   rw[he1]
   rintro _ y1 ⟨rfl,hR1,hk1⟩
   refine⟨.inl rfl,?_⟩
   simp (disch:=first|omega|assumption|rfl) only[go_sem]
   refine Fn.mono (zcM y1 t ov o ht (ho.ext hR1.ext) hoT) ?_
   rintro _ y2 ⟨hE2,nv,rfl,hrow,hbk⟩
   refine⟨.inl rfl,?_⟩
   simp (disch:=first|omega|assumption|rfl) only[go_sem]
   refine hK _ _ ?_;clear hK hgd;clear K;try clear gd
   exact⟨rfl,rfl,⟨nv,vr0,hrow,hbk.mono (by have:=hx0.size;have:=hk1.size;omega)⟩,vr0,vr0,hR1.extx hE2,((hx0.mono fun _ _ h=>h.elim).trans hk1).trans (hE2.mono fun _ _ h=>h.elim)⟩
 rintro _ σ1 _ w1 ⟨rfl,rfl,⟨nv,s3,hrow,hbk⟩,s4,s0,hR1,hk1⟩
 refine go (an3 s3 s4 s0) ?_
 refine rc (an3 s3 s4 s0) (zdn hR1 (za6 t o).2) ?_
 rintro _ w2 ⟨hR2,hk2⟩
 refine rgo s3 ?_
 have hbl:=h.lt
 refine zaf (.inr rfl) Tryz.ntmps227 rfl (zac ((vr1 s3)) zae) ?_
 exact⟨hrow.blocks fun a n c hv=>hk2.block _ (hbk a n c hv).2 (by have:=(hbk a n c hv).1;omega),hbk.ext hk2.size,hR2,hk1.trans hk2⟩
def errT(t:Lab):Int:=if (unD [] 0 t []).2=0∧255<(unD [] 0 t []).1.length then 3 else(unD [] 0 t []).2
theorem text_ok{W0 w:World}{b:Nat}{t:Lab}{q:Bool}{ws:List (Lab×Bool)}{ov:Value}{e:Int}(h:Rdr W0 w b ((t,q)::ws) ov e)(hl:ws.length≤1000000)(ht:t.length≤1000000000):
  Fn Tryz.prog 225 #[.pointer (some ⟨b,0,Option.none⟩)] w (fun v w'=>v=vs (unD [] 0 t []).1∧Rdr W0 w' b ws ov (zbL e (errT t))∧Keep (fun i=>i=b) w w'):=by
 obtain⟨wv,hb,hr⟩:=h.at'
 obtain⟨a,c,rfl,hc,hg⟩:=hr.open
 rw[List.length_cons]at hc
 obtain⟨cs,g0,hcs⟩:=hg 0 (by simp)
 simp only[List.getElem_cons_zero,Nat.zero_mul,zam]at g0 hcs
 unfold WdC at hcs
 subst hcs
 obtain⟨xa,rfl⟩:∃x,a=some x:=by
  cases a with
  |none=>cases g0
  |some x=>exact⟨x,rfl⟩
 have gt:=zab h.ext (zaN g0 (j:=0) (by simp))
 rw[zam,List.getElem_cons_zero]at gt
 have c0:zad w (some ⟨b,0,Option.none⟩)=some (.slice (some xa) (ws.length+1) c):=zaa hb rfl
 have hdr:=hr.drop (m:=1) (by simp)
 rw[List.drop_one,List.tail_cons,List.length_cons]at hdr
 have l0:(0:Int)<((ws.length+1:Nat):Int):=by omega
 have l1:(1:Int)≤((ws.length+1:Nat):Int):=by omega
 have l2:(1:Int)≤(c:Int):=by omega
 have hlow:=h.low
 have hbl:=h.lt
 have hul:=zgw [] 0 t []
 rw[List.length_nil]at hul
 unfold errT
 refine enter Tryz.func225 Tryz.ntmps225 rfl rfl ?_
 refine go trivial ?_
 refine rc (an6 c0 l0 Int.toNat_zero (Nat.zero_mul 2) (zam (some xa)) gt) (zge w t [] ht) ?_
 rintro _ w1 ⟨rfl,hE1⟩
 obtain⟨⟨l,er⟩,hq⟩:∃x,unD [] 0 t []=x:=⟨_,rfl⟩
 rw[hq]at hul ⊢
 simp only at hul ⊢
 obtain⟨e2,he2⟩:∃e2,(if er=0∧255<l.length then(3:Int) else er)=e2:=⟨_,rfl⟩
 rw[he2]
 refine rgo trivial ?_
 obtain⟨tt,htt⟩:∃tt,decide (er=0∧255<l.length)=tt:=⟨_,rfl⟩
 refine zas (Q:=fun e' σ' ds' v'=>e'= .normal∧ds'=[]∧w1=v'∧σ' 3=vs l∧σ' 4=vi er∧σ' 0= .pointer (some ⟨b,0,Option.none⟩)∧σ' 22= .bool tt) ?_ ?_
 ·by_cases c1:er=0
  ·have d1:decide (er=0)=true:=decide_eq_true c1
   have d2:decide ((255:Int)<(l.length:Int))=tt:=by rw[←htt];exact decide_eq_decide.2 ⟨fun h=>⟨c1,by omega⟩,fun h=>by omega⟩
   refine rgg [(2,18)] (an2 d1 d2) ?_
   exact⟨rfl,rfl,rfl,vr0,vr0,vr0,vr0⟩
  ·have d1:decide (er=0)=false:=decide_eq_false c1
   have d2:tt=false:=by rw[←htt];exact decide_eq_false fun h=>c1 h.1
   subst d2
   refine rgg [(2,18)] d1 ?_
   exact⟨rfl,rfl,rfl,vr0,vr0,vr0,vr0⟩
 rintro _ σ0 _ v0 ⟨rfl,rfl,hv0,r3,r4,r0,r22⟩
 subst hv0
 repeat refine c_r ?_
 refine zas (Q:=fun e' σ' ds' v'=>e'= .normal∧ds'=[]∧w1=v'∧σ' 3=vs l∧σ' 4=vi e2∧σ' 0= .pointer (some ⟨b,0,Option.none⟩)) ?_ ?_
 ·cases tt with
  |true=>
   rw[if_pos (of_decide_eq_true htt)]at he2
   refine go (an4 r3 r4 r0 r22) ?_
   exact⟨rfl,rfl,rfl,(vq1 r3),by rw[←he2];first| (simp only[go_sem];done)| (simp only[go_sem];rfl),(vq1 r0)⟩
  |false=>
   rw[if_neg (of_decide_eq_false htt)]at he2
   refine go (an4 r3 r4 r0 r22) ?_
   exact⟨rfl,rfl,rfl,(vq1 r3),by rw[←he2];exact r4,(vq1 r0)⟩
 clear r3 r4 r0 r22
 rintro _ σ1 _ v1 ⟨rfl,rfl,hv1,s3,s4,s0⟩
 subst hv1
 have hb1:=Ext.at hE1 hb
 have c1:zad w1 (some ⟨b,0,Option.none⟩)=some (.slice (some xa) (ws.length+1) c):=zaa hb1 rfl
 refine go (an3 s3 s4 s0) ?_
 refine rq ?_;intro gd K hgd hK
 try simp (disch:=first|omega|assumption|rfl) only[go_sem,s0,c1,l1,l2]
 refine zaq (P:=Tryz.prog) rfl rfl rfl hb1 (by simp) (by simp) ?_
 intro w2 hs2 hb2 hk2
 try simp only[go_sem]
 refine hK _ _ ?_;clear hK hgd;clear K;try clear gd
 have hR2:Rdr W0 w2 b ws ov e:=⟨Keep.to_ext (h.ext.trans hE1) rfl (fun i hi=>by omega) hk2,h.low,⟨_,hb2,hdr⟩,h.one⟩
 refine go (an3 s3 s4 s0) ?_
 refine rc (an3 s3 s4 s0) (zdn hR2 e2) ?_
 rintro _ w3 ⟨hR3,hk3⟩
 refine rgo s3 ?_
 refine zaf (.inr rfl) Tryz.ntmps225 rfl (zac ((vr1 s3)) zae) ?_
 exact⟨rfl,hR3,((hE1.mono fun _ _ h=>h.elim).trans hk2).trans hk3⟩
structure SplP(s:Lab)(ps:List Lab):Prop where
 sp:Lib.splitB ⟨#[46]⟩ 0 (Lib.countB ⟨s.toArray⟩ ⟨#[46]⟩) ⟨s.toArray⟩=ps.map fun l=>⟨l.toArray⟩
 ct:Lib.countB ⟨s.toArray⟩ ⟨#[46]⟩+1=ps.length
theorem znh{w:World}(hW:WX w){s:Lab}{ps:List Lab}{n:Nat}(hs:s.length<4000000000)(h:SplP s ps)(hn:ps.length=n):
  Fn Tryz.prog 205 #[vs s,vs [46]] w (fun v w'=>v= .slice (some ⟨w.heap.size,0,Option.none⟩) n n∧w'.heap[w.heap.size]? =some (.cells (ps.map vs).toArray 9 (0,0))∧Ext w w'):=by
 obtain⟨m,hm⟩:=hW.ml
 refine Fn.of_calls ((Any.strings_Split Tryz.lays146 (by kernel_rfl) ⟨s.toArray⟩ ⟨#[46]⟩ m w (show s.toArray.size<_ by simp;omega) hm (by decide)).mono ?_)
 rintro _ w' ⟨he,rfl⟩
 subst hn
 rw[h.sp,h.ct,List.map_map]at*
 refine⟨_,he,rfl,?_,Ext.alloc w _⟩
 rw[World.alloc_heap_new]
 rfl
def digs16:Lab:=[48,49,50,51,52,53,54,55,56,57,97,98,99,100,101,102,65,66,67,68,69,70]
theorem zgy(w:World)(s:Lab)(hs:s.length≤1000000000):Fn Tryz.prog 246 #[vs s] w (fun v w'=>v= .bool (decide (Lib.trimS s digs16=[]))∧Ext w w'):=by
 have hT:Fn Tryz.prog 163 #[vs s,vs digs16] w (fun v w'=>v=vs (Lib.trimS s digs16)∧Ext w w'):=by
  by_cases h0:s=[]
  ·subst h0
   refine enter Tryz.func163 Tryz.ntmps163 rfl rfl ?_
   have d0:decide (([]:Lab)=[])=true:=rfl
   refine go trivial ?_
   refine rgg [(2,9)] d0 ?_
   refine go trivial ?_
   refine rt0 Tryz.ntmps163 ?_
   exact⟨rfl,Keep.refl _ _⟩
  refine Fn.of_calls (Calls.mono (Any.strings_Trim_set Tryz.lays160 (zero_of_info (n:=256) (by kernel_rfl)).1 (by kernel_rfl) ⟨s.toArray⟩ ⟨digs16.toArray⟩ w (by decide) (show 0<s.toArray.size by simpa using List.length_pos_iff.2 h0) (show s.toArray.size≤_ by simp;omega) (by decide) (ascii_of_all (by decide))) ?_)
  rintro _ w' ⟨he,q,rfl⟩
  exact⟨_,he,rfl,((Ext.alloc w _).trans (Ext.alloc _ _)).trans (Ext.drewN _ q)⟩
 refine enter Tryz.func246 Tryz.ntmps246 rfl rfl ?_
 refine go trivial ?_
 refine rc trivial hT ?_
 rintro _ w1 ⟨rfl,hE1⟩
 refine rgo trivial ?_
 refine rt0 Tryz.ntmps246 ?_
 exact⟨rfl,hE1⟩
end Go.Proofs.YtkpdfhbpdkifoaaGreatDoor
