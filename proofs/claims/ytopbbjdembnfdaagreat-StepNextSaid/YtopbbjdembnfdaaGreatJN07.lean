/-
  Texts of a proof, joined: B2, B3, K24, E9, E10, F2, Y4, F3.
  Conditions: none.
-/
import Derived.Test.YtopbbjdembnfdaaGreatJN06
import Derived.MapFrom
import Derived.Test.YtopbbjdembnfdaaGreatJN02
import Derived.Test.YtopbbjdembnfdaaGreatJN05
set_option linter.unusedVariables false
set_option linter.unusedSimpArgs false
set_option linter.defProp false
set_option linter.unnecessarySimpa false
namespace Go.Proofs.YtopbbjdembnfdaaGreat
open Go
set_option maxRecDepth 10000
theorem ze1(n:Nm):(n.flatMap fun l=>za2 l++ [46]).length≤4*(n.map List.length).sum+n.length:=by
 induction n with
 |nil=>simp
 |cons l n ih=>
  have:=zcv l
  rw[List.flatMap_cons,List.length_append,List.map_cons,List.sum_cons,List.length_cons]
  simp only[List.length_append,List.length_singleton]
  omega
theorem NText_ok(w:World)(nv:Value)(n:Nm)(hn:Row w nv (n.map vs))(hne:∀l∈n,l≠ [])(hl:∀l∈n,l.length≤1000000)(hnl:n.length≤1000):
  Fn Tryz.prog 179 #[nv] w (fun v w'=>v=vs (zaX n)∧Ext w w'):=by
 obtain⟨an,cn,rfl,hcn,hgn⟩:=hn
 simp only[List.length_map]at hcn hgn
 rw[List.length_map]
 refine enter Tryz.func179 Tryz.ntmps179 rfl rfl ?_
 repeat refine c_r ?_
 refine rg0 ?_
 repeat refine c_r ?_
 refine rg0 ?_
 repeat refine c_r ?_
 refine wc0 ?_ ?_
 ·intro h0
  simp only[decide_eq_true_eq]at h0
  have hn0:n=[]:=List.length_eq_zero_iff.1 (by omega)
  repeat (first|refine c_r ?_|refine rg0 ?_)
  refine rt0 Tryz.ntmps179 ?_
  exact⟨by unfold zaX;rw[if_pos hn0],Keep.refl _ _⟩
 intro h0
 simp only[decide_eq_false_iff_not]at h0
 have hn0:n≠ []:=fun h=>h0 (by rw[h];rfl)
 repeat refine c_r ?_
 refine rg0 ?_
 refine zaA ?_
 intro w1 hE1 hs1 hA
 repeat refine c_r ?_
 refine rg0 ?_
 repeat refine c_r ?_
 refine zap (fun m σ ds A=>ds=[]∧∃(i:Nat),i+m=n.length∧σ 11=vi i∧σ 10=vi n.length∧σ 9= .slice an n.length cn∧σ 3= .pointer (some ⟨w.heap.size,0,Option.none⟩)∧Ext w A∧w1.heap.size≤A.heap.size∧Bld w1.heap.size A w.heap.size ((n.take i).flatMap fun l=>za2 l++ [46])) n.length ?_ ?_
 ·exact⟨rfl,0,by omega,vr0,vq0,vq0,vq0,hE1,Nat.le_refl _,_,_,.inl rfl,hA,Own.nil _ _ _⟩
 rintro m σ ds A ⟨rfl,i,him,h11,h10,h9,h3,hEA,hsA,hB⟩
 repeat refine c_r ?_
 refine rq ?_;intro gd K hgd hK;simp (disch:=first|omega|assumption|rfl) only[go_sem,h11,h10];refine hK _ _ ?_;clear hK hgd;clear K gd
 repeat refine c_r ?_
 refine wc0 ?_ ?_
 ·intro hlt
  simp only[decide_eq_true_eq]at hlt
  have hi:i<n.length:=by omega
  have hi0:(0:Int)≤(i:Int):=by omega
  have hi1:(i:Int)<(n.length:Int):=by omega
  have hi1':(i:Int)+1=((i+1:Nat):Int):=by push_cast;rfl
  have hg:=zab hEA (hgn i (by simpa using hi))
  rw[List.getElem_map]at hg
  obtain⟨l,hle⟩:∃l,n[i]=l:=⟨_,rfl⟩
  rw[hle]at hg
  have hmem:l∈n:=hle▸List.getElem_mem hi
  obtain⟨xn,rfl⟩:=Option.isSome_iff_exists.1 (zai hg)
  have hpl:((n.take i).flatMap fun l=>za2 l++ [46]).length≤5000000000:=by
   have h1:=ze1 (n.take i)
   have h2:((n.take i).map List.length).sum≤1000000*n.length:=by
    have:∀(k:Nm),(∀l∈k,l.length≤1000000)→(k.map List.length).sum≤1000000*k.length:=fun k=>by
     induction k with
     |nil=>intro _;simp
     |cons x k ih=>
      intro h
      have h3:=ih (fun l hl=>h l (List.mem_cons_of_mem _ hl))
      have h4:=h x (List.mem_cons_self ..)
      rw[List.map_cons,List.sum_cons,List.length_cons];omega
    have h3:=this (n.take i) (fun l hl'=>hl l (List.mem_of_mem_take hl'))
    rw[List.length_take]at h3;omega
   rw[List.length_take]at h1;omega
  have htl:=zcv l
  have hll:=hl l hmem
  have hadd:(za2 l).length+([46]:List UInt8).length≤9223372036854775807:=by rw[List.length_singleton];omega
  repeat refine c_r ?_
  refine rq ?_;intro gd K hgd hK;simp (disch:=first|omega|assumption|rfl) only[go_sem,h9,h11,hi0,hi1,hg];refine hK _ _ ?_;clear hK hgd;clear K gd
  repeat refine c_r ?_
  refine rq ?_;intro gd K hgd hK
  try simp only[go_sem]
  refine Fn.mono (LText_ok A l (hne l hmem) (by omega)) ?_
  rintro _ A1 ⟨rfl,hE2⟩
  try simp (disch:=first|omega|assumption|rfl) only[go_sem,h3]
  refine Fn.mono (zdz (s:=za2 l++ [46]) (hB.ext' hE2) (by have:=hE2.size;omega) (by rw[List.length_append,List.length_singleton];omega)) ?_
  rintro _ A2 ⟨hB2,hk2⟩
  try simp only[go_sem]
  refine hK _ _ ?_;clear hK hgd;clear K;try clear gd
  repeat refine c_r ?_
  refine rq ?_;intro gd K hgd hK;simp (disch:=first|omega|assumption|rfl) only[go_sem,h11,hi1'];refine hK _ _ ?_;clear hK hgd;clear K gd
  repeat refine c_r ?_
  refine⟨m - 1,by omega,rfl,i+1,by omega,vq0,(vq1 h10),(vq1 h9),(vq1 h3),Keep.to_ext (hEA.trans hE2) rfl (fun b hb=>by omega) hk2,by have:=hE2.size;have:=hk2.size;omega,?_⟩
  rw[zao hi,List.flatMap_append,hle]
  simpa using hB2
 ·intro hge
  simp only[decide_eq_false_iff_not]at hge
  rw[List.take_of_length_le (by omega)]at hB
  have htx:(n.flatMap fun l=>za2 l++ [46])≠ []:=by
   cases n with
   |nil=>exact absurd rfl hn0
   |cons l n=>
    rw[List.flatMap_cons]
    intro h
    have:=(List.append_eq_nil_iff.1 (List.append_eq_nil_iff.1 h).1).2
    cases this
  have hpl:(n.flatMap fun l=>za2 l++ [46]).length≤5000000000:=by
   have h1:=ze1 n
   have:∀(k:Nm),(∀l∈k,l.length≤1000000)→(k.map List.length).sum≤1000000*k.length:=fun k=>by
    induction k with
    |nil=>intro _;simp
    |cons x k ih=>
     intro h
     have h3:=ih (fun l hl=>h l (List.mem_cons_of_mem _ hl))
     have h4:=h x (List.mem_cons_self ..)
     rw[List.map_cons,List.sum_cons,List.length_cons];omega
   have h3:=this n hl
   omega
  repeat refine c_r ?_
  refine rq ?_;intro gd K hgd hK
  try simp (disch:=first|omega|assumption|rfl) only[go_sem,h3]
  refine Fn.mono (zhI hB htx (by omega)) ?_
  rintro _ z ⟨rfl,hkz⟩
  try simp only[go_sem]
  refine hK _ _ ?_;clear hK hgd;clear K;try clear gd
  repeat refine c_r ?_
  refine rt0 Tryz.ntmps179 ?_
  exact⟨by unfold zaX;rw[if_neg hn0],Keep.to_ext hEA rfl (fun b hb=>by omega) hkz⟩
theorem zio(w:World)(c:UInt8)(l:List UInt8)(hl:l.length≤1000000):Fn Tryz.prog 214 #[zag c,vs l] w (fun v w'=>v= .bool (l.contains c)∧Ext w w'):=by
 refine enter Tryz.func214 Tryz.ntmps214 rfl rfl ?_
 repeat refine c_r ?_
 refine rg0 ?_
 repeat refine c_r ?_
 refine rg0 ?_
 repeat refine c_r ?_
 refine zap (fun m σ ds A=>ds=[]∧∃(i:Nat),i+m=l.length∧σ 5=vi i∧σ 1=vs l∧σ 0=zag c∧Ext w A∧∀j (h:j<l.length),j<i→l[j]≠c) l.length ?_ ?_
 ·exact⟨rfl,0,by omega,vr0,vq0,vq0,Keep.refl _ _,fun j h hj=>absurd hj (by omega)⟩
 rintro m σ ds A ⟨rfl,i,him,h5,h1,h0,hEA,hlow⟩
 repeat refine c_r ?_
 refine rg2 h5 h1 ?_
 repeat refine c_r ?_
 refine wc0 ?_ ?_
 ·intro hlt
  simp only[decide_eq_true_eq]at hlt
  have hi:i<l.length:=by omega
  have hi0:(0:Int)≤(i:Int):=by omega
  have hi1:(i:Int)<(l.length:Int):=by omega
  have hi1':(i:Int)+1=((i+1:Nat):Int):=by push_cast;rfl
  repeat refine c_r ?_
  refine rq ?_;intro gd K hgd hK;simp (disch:=first|omega|assumption|rfl) only[go_sem,h1,h5,h0,hi0,hi1,zag];refine hK _ _ ?_;clear hK hgd;clear K gd
  repeat refine c_r ?_
  refine wc0 ?_ ?_
  ·intro heq
   simp only[decide_eq_true_eq]at heq
   have hc:l[i]=c:=UInt8.toNat_inj.1 (by omega)
   repeat (first|refine c_r ?_|refine rg0 ?_)
   refine rt0 Tryz.ntmps214 ?_
   refine⟨?_,hEA⟩
   rw[show l.contains c=true from by rw[List.contains_iff_mem,←hc];exact List.getElem_mem hi]
  ·intro hne
   simp only[decide_eq_false_iff_not]at hne
   repeat refine c_r ?_
   refine rg2 h5 hi1' ?_
   repeat refine c_r ?_
   refine⟨m - 1,by omega,rfl,i+1,by omega,vq0,(vq1 h1),(vq1 h0),hEA,fun j hj hji=>?_⟩
   by_cases hj2:j=i
   ·subst hj2;exact fun h=>hne (by rw[h])
   ·exact hlow j hj (by omega)
 ·intro hge
  simp only[decide_eq_false_iff_not]at hge
  repeat (first|refine c_r ?_|refine rg0 ?_)
  refine rt0 Tryz.ntmps214 ?_
  refine⟨?_,hEA⟩
  rw[show l.contains c=false from by
   rw[←Bool.not_eq_true,List.contains_iff_mem]
   intro hm
   obtain⟨j,hj,e⟩:=List.getElem_of_mem hm
   exact hlow j hj (by omega) e]
theorem zir(w:World)(c:UInt8):Fn Tryz.prog 215 #[zag c] w (fun v w'=>v=vs (escB c)∧Ext w w'):=by
 have hc:c.toNat<256:=c.toNat_lt
 obtain⟨n,hn⟩:∃n,c.toNat=n:=⟨_,rfl⟩
 have e0:zag c= .int .u8 (n:Int):=by unfold zag;rw[hn]
 rw[e0]
 rw[hn]at hc
 have h100:¬(100:Int)=0:=by decide
 have h10:¬(10:Int)=0:=by decide
 have e1:((n:Nat):Int).tdiv 100=((n / 100:Nat):Int):=by rw[Int.tdiv_eq_ediv_of_nonneg (by omega)];omega
 have e2:((n:Nat):Int).tdiv 10=((n / 10:Nat):Int):=by rw[Int.tdiv_eq_ediv_of_nonneg (by omega)];omega
 have e3:((n / 10:Nat):Int).tmod 10=((n / 10 % 10:Nat):Int):=by rw[Int.tmod_eq_emod_of_nonneg (by omega)];omega
 have e4:((n:Nat):Int).tmod 10=((n % 10:Nat):Int):=by rw[Int.tmod_eq_emod_of_nonneg (by omega)];omega
 have w1:IntKind.u8.wrap ((n / 100:Nat):Int)=((n / 100:Nat):Int):=zeX (by omega) (by omega)
 have w2:IntKind.u8.wrap ((n / 10:Nat):Int)=((n / 10:Nat):Int):=zeX (by omega) (by omega)
 have w3:IntKind.u8.wrap (48+((n / 100:Nat):Int))=((48+n / 100:Nat):Int):=by rw[zeX (by omega) (by omega)];push_cast;rfl
 have w4:IntKind.u8.wrap (48+((n / 10 % 10:Nat):Int))=((48+n / 10 % 10:Nat):Int):=by rw[zeX (by omega) (by omega)];push_cast;rfl
 have w5:IntKind.u8.wrap (48+((n % 10:Nat):Int))=((48+n % 10:Nat):Int):=by rw[zeX (by omega) (by omega)];push_cast;rfl
 obtain⟨D,hD⟩:∃D,D=[UInt8.ofNat (48+n / 100),UInt8.ofNat (48+n / 10 % 10),UInt8.ofNat (48+n % 10)]:=⟨_,rfl⟩
 have hl:escB c=[92]++D:=by unfold escB;rw[hn,hD];rfl
 have hDl:D.length=3:=by rw[hD];rfl
 refine enter Tryz.func215 Tryz.ntmps215 rfl rfl ?_
 repeat refine c_r ?_
 refine rg0 ?_
 repeat refine c_r ?_
 refine rq ?_;intro gd K hgd hK
 try simp (disch:=assumption) only[go_sem,b_quo,b_rem,e1,e2,e3,e4,w1,w2,↓w3,↓w4,↓w5]
 refine zbU (z:= .int .u8 0) (l:=D.map zag) (by rw[hD];rfl) ?_ (by rfl) (by rfl) (by rfl) (by rfl) (fun v hv=>?_) (by rw[hD];simp) ?_
 ·rw[hD]
  simp only[List.map_cons,List.map_nil]
  rw[zcp (by omega),zcp (by omega),zcp (by omega)];rfl
 ·obtain⟨d,_,rfl⟩:=List.mem_map.1 hv;rfl
 intro x1 hX1 hXs hXo
 try simp only[go_sem]
 refine zbf (l:=D) (a:=some ⟨w.heap.size,0,Option.none⟩) (c:=3) rfl rfl rfl (by rw[hDl];first| (simp only[go_sem];done)| (simp only[go_sem];rfl)) (fun j hj=>?_) ?_
 ·obtain⟨a,c2,e,hc2,hgt⟩:=hXo.row
  injection e with e1
  have h2:=hgt j (by simpa using hj)
  rw[←e1,List.getElem_map]at h2
  exact h2
 have hadd:([92]:List UInt8).length+D.length≤9223372036854775807:=by rw[hDl];decide
 simp (disch:=assumption) only[go_sem]
 refine hK _ _ ?_;clear hK hgd;clear K;try clear gd
 repeat refine c_r ?_
 refine rt0 Tryz.ntmps215 ?_
 exact⟨by rw[hl];rfl,hX1⟩
theorem ziN(c:UInt8):labB c=if marksL.contains c then [92,c] else if 33≤c.toNat∧c.toNat≤126 then [c] else escB c:=by
 unfold labB
 by_cases hm:marksL.contains c=true
 ·have hmem:c∈marksL:=by simpa using hm
  have hr:¬(c.toNat≤32∨127≤c.toNat):=by
   simp only[marksL,List.mem_cons,List.not_mem_nil,or_false]at hmem
   rcases hmem with rfl|rfl|rfl|rfl|rfl|rfl|rfl|rfl<;>decide
  rw[if_neg hr,if_pos hm,if_pos hm]
 ·by_cases hr:c.toNat≤32∨127≤c.toNat
  ·rw[if_pos hr,if_neg hm,if_neg (by omega)]
  ·rw[if_neg hr,if_neg hm,if_neg hm,if_pos (by omega)]
theorem zgM(w:World)(l:Lab)(hl:l.length≤1000000000):Fn Tryz.prog 185 #[vs l] w (fun v w'=>v=vs (za2 l)∧Ext w w'):=by
 refine enter Tryz.func185 Tryz.ntmps185 rfl rfl ?_
 repeat refine c_r ?_
 refine rg0 ?_
 repeat refine c_r ?_
 refine rg0 ?_
 repeat refine c_r ?_
 refine rg0 ?_
 repeat refine c_r ?_
 refine zap (fun m σ ds A=>ds=[]∧∃(i:Nat),i+m=l.length∧σ 4=vi i∧σ 0=vs l∧σ 3=vs (za2 (l.take i))∧Ext w A) l.length ?_ ?_
 ·exact⟨rfl,0,by omega,vr0,vq0,vr0,Keep.refl _ _⟩
 rintro m σ ds A ⟨rfl,i,him,h4,h0,h3,hEA⟩
 repeat refine c_r ?_
 refine rg2 h4 h0 ?_
 repeat refine c_r ?_
 refine wc0 ?_ ?_
 ·intro hlt
  simp only[decide_eq_true_eq]at hlt
  have hi:i<l.length:=by omega
  have hi0:(0:Int)≤(i:Int):=by omega
  have hi1:(i:Int)<(l.length:Int):=by omega
  have hi1':(i:Int)+1=((i+1:Nat):Int):=by push_cast;rfl
  obtain⟨c,hc⟩:∃c,l[i]=c:=⟨_,rfl⟩
  have hin:(i:Int).toNat<l.length:=by omega
  have htk:za2 (l.take (i+1))=za2 (l.take i)++labB c:=by
   rw[zao hi,hc];unfold za2;rw[List.flatMap_append];simp
  have hlen:=zcv (l.take i)
  rw[List.length_take]at hlen
  have hsl:(l.drop i).take (i+1 - i)=[c]:=by
   rw[List.drop_eq_getElem_cons hi,hc,show i+1 - i=1 from by omega];rfl
  have b0:(0:Int)≤((i+1:Nat):Int):=by omega
  have b1:(i:Int)≤((i+1:Nat):Int):=by omega
  have b2:((i+1:Nat):Int)≤(l.length:Int):=by omega
  have a1:(za2 (l.take i)).length+([92]:List UInt8).length≤9223372036854775807:=by simp;omega
  have a2:(za2 (l.take i)++ [92]).length+([c]:List UInt8).length≤9223372036854775807:=by simp;omega
  have a3:(za2 (l.take i)).length+([c]:List UInt8).length≤9223372036854775807:=by simp;omega
  have a4:(za2 (l.take i)).length+(escB c).length≤9223372036854775807:=by have:(escB c).length=4:=rfl;omega
  have hbc:zag c= .int .u8 (c.toNat:Int):=rfl
  have hlr:=ziN c
  repeat refine c_r ?_
  refine rq ?_;intro gd K hgd hK
  try simp (disch:=first|omega|assumption|rfl) only[go_sem,h0,h4,hi0,hi1,Int.toNat_natCast,hc]
  refine Fn.mono (zio A c marksL (by decide)) ?_
  rintro _ A1 ⟨rfl,hE1⟩
  try simp only[go_sem]
  refine hK _ _ ?_;clear hK hgd;clear K;try clear gd
  have hEA1:=hEA.trans hE1
  repeat refine c_r ?_
  refine wc0 ?_ ?_
  ·intro hm
   rw[if_pos hm]at hlr
   repeat refine c_r ?_
   refine rq ?_;intro gd K hgd hK
   simp (disch:=first|assumption|omega) only[go_sem,h0,h4,h3,hi1',Int.toNat_natCast,hsl]
   refine hK _ _ ?_;clear hK hgd;clear K;try clear gd
   repeat refine c_r ?_
   refine rg2 h4 hi1' ?_
   repeat refine c_r ?_
   refine⟨m - 1,by omega,rfl,i+1,by omega,vq0,(vq1 h0),?_,hEA1⟩
   rw[htk,hlr]
   simp only[go_sem]
   simp
  ·intro hm
   rw[if_neg (by rw[hm];exact Bool.false_ne_true)]at hlr
   repeat refine c_r ?_
   refine zaC (Q:=fun e σ' ds' v'=>e= .normal∧ds'=[]∧v'=A1∧σ' 4=vi i∧σ' 0=vs l∧σ' 3=vs (za2 (l.take i))∧σ' 30= .bool (decide (33≤c.toNat∧c.toNat≤126))) ?_ ?_
   ·refine rq ?_;intro gd K hgd hK
    have hg4:∀n σ b,zas gd n σ (some (4,b))=zal (ev n σ (.tmp 35)) b:=(fun n σ b=>by rw[zad,show gd 4=some 35 from(by rw[hgd];rfl)];rfl)
    by_cases c1:(33:Int)≤(c.toNat:Int)
    ·try simp (disch:=first|omega|assumption|rfl) only[go_sem,h0,h4,hi0,hi1,Int.toNat_natCast,hc,decide_eq_true c1,↓hg4]
     refine hK _ _ ?_;clear hK hgd;clear K;try clear gd
     refine⟨rfl,rfl,rfl,(vq1 h4),(vq1 h0),(vq1 h3),?_⟩
     rw[show decide (33≤c.toNat∧c.toNat≤126)=decide ((c.toNat:Int)≤126) from decide_eq_decide.2 ⟨fun h=>by omega,fun h=>⟨by omega,by omega⟩⟩]
     simp only[go_sem]
    ·try simp (disch:=first|omega|assumption|rfl) only[go_sem,h0,h4,hi0,hi1,Int.toNat_natCast,hc,decide_eq_false c1,↓hg4]
     refine hK _ _ ?_;clear hK hgd;clear K;try clear gd
     refine⟨rfl,rfl,rfl,(vq1 h4),(vq1 h0),(vq1 h3),?_⟩
     rw[show decide (33≤c.toNat∧c.toNat≤126)=false from decide_eq_false (fun h=>c1 (by omega))]
     simp only[go_sem]
   clear h4 h0 h3
   rintro _ σ1 _ v1 ⟨rfl,rfl,hv1,h4,h0,h3,h30⟩
   rw[hv1]
   clear hv1 v1
   repeat refine c_r ?_
   refine zaB (t:=decide (33≤c.toNat∧c.toNat≤126)) ((vq1 h30)) ?_ ?_
   ·intro hr
    simp only[decide_eq_true_eq]at hr
    rw[if_pos hr]at hlr
    repeat refine c_r ?_
    refine rq ?_;intro gd K hgd hK
    simp (disch:=first|assumption|omega) only[go_sem,h0,h4,h3,hi1',Int.toNat_natCast,hsl]
    refine hK _ _ ?_;clear hK hgd;clear K;try clear gd
    repeat refine c_r ?_
    refine rg2 h4 hi1' ?_
    repeat refine c_r ?_
    refine⟨m - 1,by omega,rfl,i+1,by omega,vq0,(vq1 h0),?_,hEA1⟩
    rw[htk,hlr]
    simp only[go_sem]
   ·intro hr
    simp only[decide_eq_false_iff_not]at hr
    rw[if_neg hr]at hlr
    repeat refine c_r ?_
    refine rq ?_;intro gd K hgd hK
    try simp (disch:=first|omega|assumption|rfl) only[go_sem,h0,h4,h3,hi0,hi1,Int.toNat_natCast,hc]
    refine Fn.mono (zir A1 c) ?_
    rintro _ A2 ⟨rfl,hE2⟩
    simp (disch:=first|assumption|omega) only[go_sem]
    refine hK _ _ ?_;clear hK hgd;clear K;try clear gd
    repeat refine c_r ?_
    refine rg2 h4 hi1' ?_
    repeat refine c_r ?_
    refine⟨m - 1,by omega,rfl,i+1,by omega,vq0,(vq1 h0),?_,hEA1.trans hE2⟩
    rw[htk,hlr]
    simp only[go_sem]
 ·intro hge
  simp only[decide_eq_false_iff_not]at hge
  rw[List.take_of_length_le (by omega)]at h3
  repeat refine c_r ?_
  refine rg1 h3 ?_
  repeat refine c_r ?_
  refine rt1 h3 Tryz.ntmps185 ?_
  exact⟨rfl,hEA⟩
theorem zeE(w:World)(nv:Value)(n:Nm)(hn:Row w nv (n.map vs))(hl:∀l∈n,l.length≤1000000)(hnl:n.length≤1000):
  Fn Tryz.prog 140 #[nv] w (fun v w'=>v=vs (zaX n)∧Ext w w'):=by
 obtain⟨an,cn,rfl,hcn,hgn⟩:=hn
 simp only[List.length_map]at hcn hgn
 rw[List.length_map]
 refine enter Tryz.func140 Tryz.ntmps140 rfl rfl ?_
 repeat refine c_r ?_
 refine rg0 ?_
 repeat refine c_r ?_
 refine rg0 ?_
 repeat refine c_r ?_
 refine wc0 ?_ ?_
 ·intro h0
  simp only[decide_eq_true_eq]at h0
  have hn0:n=[]:=List.length_eq_zero_iff.1 (by omega)
  repeat (first|refine c_r ?_|refine rg0 ?_)
  refine rt0 Tryz.ntmps140 ?_
  exact⟨by unfold zaX;rw[if_pos hn0],Keep.refl _ _⟩
 intro h0
 simp only[decide_eq_false_iff_not]at h0
 have hn0:n≠ []:=fun h=>h0 (by rw[h];rfl)
 repeat refine c_r ?_
 refine rg0 ?_
 repeat refine c_r ?_
 refine rg0 ?_
 repeat refine c_r ?_
 refine zap (fun m σ ds A=>ds=[]∧∃(i:Nat),i+m=n.length∧σ 4=vi i∧σ 0= .slice an n.length cn∧σ 3=vs ((n.take i).flatMap fun l=>za2 l++ [46])∧Ext w A) n.length ?_ ?_
 ·exact⟨rfl,0,by omega,vr0,vq0,vr0,Keep.refl _ _⟩
 rintro m σ ds A ⟨rfl,i,him,h4,h0',h3,hEA⟩
 repeat refine c_r ?_
 refine rg2 h4 h0' ?_
 repeat refine c_r ?_
 refine wc0 ?_ ?_
 ·intro hlt
  simp only[decide_eq_true_eq]at hlt
  have hi:i<n.length:=by omega
  have hi0:(0:Int)≤(i:Int):=by omega
  have hi1:(i:Int)<(n.length:Int):=by omega
  have hi1':(i:Int)+1=((i+1:Nat):Int):=by push_cast;rfl
  have hg:=zab hEA (hgn i (by simpa using hi))
  rw[List.getElem_map]at hg
  obtain⟨l,hle⟩:∃l,n[i]=l:=⟨_,rfl⟩
  rw[hle]at hg
  have hmem:l∈n:=hle▸List.getElem_mem hi
  obtain⟨xn,rfl⟩:=Option.isSome_iff_exists.1 (zai hg)
  have hpl:((n.take i).flatMap fun l=>za2 l++ [46]).length≤5000000000:=by
   have h1:=ze1 (n.take i)
   have:∀(k:Nm),(∀l∈k,l.length≤1000000)→(k.map List.length).sum≤1000000*k.length:=fun k=>by
    induction k with
    |nil=>intro _;simp
    |cons x k ih=>
     intro h
     have h3:=ih (fun l hl=>h l (List.mem_cons_of_mem _ hl))
     have h4:=h x (List.mem_cons_self ..)
     rw[List.map_cons,List.sum_cons,List.length_cons];omega
   have h3:=this (n.take i) (fun l hl'=>hl l (List.mem_of_mem_take hl'))
   rw[List.length_take]at h1 h3;omega
  have htl:=zcv l
  have hll:=hl l hmem
  have a1:((n.take i).flatMap fun l=>za2 l++ [46]).length+(za2 l).length≤9223372036854775807:=by omega
  have a2:(((n.take i).flatMap fun l=>za2 l++ [46])++za2 l).length+([46]:List UInt8).length≤9223372036854775807:=by rw[List.length_append,List.length_singleton];omega
  repeat refine c_r ?_
  refine rq ?_;intro gd K hgd hK
  try simp (disch:=first|omega|assumption|rfl) only[go_sem,h0',h3,h4,hi0,hi1,hg]
  refine Fn.mono (zgM A l (by omega)) ?_
  rintro _ A1 ⟨rfl,hE2⟩
  simp (disch:=first|assumption|omega) only[go_sem]
  refine hK _ _ ?_;clear hK hgd;clear K;try clear gd
  repeat refine c_r ?_
  refine rg2 h4 hi1' ?_
  repeat refine c_r ?_
  refine⟨m - 1,by omega,rfl,i+1,by omega,vq0,(vq1 h0'),?_,hEA.trans hE2⟩
  rw[zao hi,List.flatMap_append,hle]
  simp only[go_sem]
  simp
 ·intro hge
  simp only[decide_eq_false_iff_not]at hge
  rw[List.take_of_length_le (by omega)]at h3
  repeat refine c_r ?_
  refine rg1 h3 ?_
  repeat refine c_r ?_
  refine rt1 h3 Tryz.ntmps140 ?_
  exact⟨by unfold zaX;rw[if_neg hn0],hEA⟩
theorem zeh{a b:Nat}(ha:a<256)(hb:b<256)(h:UInt8.ofNat a=UInt8.ofNat b):a=b:=by
 have:=congrArg UInt8.toNat h
 rwa [UInt8.toNat_ofNat_of_lt' (by simpa [UInt8.size] using ha),UInt8.toNat_ofNat_of_lt' (by simpa [UInt8.size] using hb)]at this
theorem zel(c:UInt8):labB c=escB c∨(labB c=[92,c]∧c∈marksL)∨(labB c=[c]∧c≠92∧c≠46):=by
 rw[ziN]
 by_cases hm:marksL.contains c=true
 ·rw[if_pos hm];exact .inr (.inl ⟨rfl,by simpa using hm⟩)
 ·rw[if_neg hm]
  by_cases hr:33≤c.toNat∧c.toNat≤126
  ·rw[if_pos hr]
   refine .inr (.inr ⟨rfl,?_,?_⟩)
   ·rintro rfl;exact hm (by decide)
   ·rintro rfl;exact hm (by decide)
  ·rw[if_neg hr];exact .inl rfl
theorem ziW{c d:UInt8}(hd:d∈marksL):UInt8.ofNat (48+c.toNat / 100)≠d:=by
 intro h
 have hc:c.toNat<256:=c.toNat_lt
 have:=congrArg UInt8.toNat h
 rw[UInt8.toNat_ofNat_of_lt' (by simp[UInt8.size];omega)]at this
 simp only[marksL,List.mem_cons,List.not_mem_nil,or_false]at hd
 rcases hd with rfl|rfl|rfl|rfl|rfl|rfl|rfl|rfl<;>(revert this;simp;omega)
theorem labB_inj{c d:UInt8}{x y:List UInt8}(h:labB c++x=labB d++y):c=d∧x=y:=by
 have hc:c.toNat<256:=c.toNat_lt
 have hd:d.toNat<256:=d.toNat_lt
 rcases zel c with h1| ⟨h1,m1⟩| ⟨h1,n1,k1⟩<;>rcases zel d with h2| ⟨h2,m2⟩| ⟨h2,n2,k2⟩<;>rw[h1,h2]at h
 ·unfold escB at h
  simp only[List.cons_append,List.nil_append,List.cons.injEq,true_and]at h
  obtain⟨e1,e2,e3,e4⟩:=h
  have e1:=zeh (by omega) (by omega) e1
  have e2:=zeh (by omega) (by omega) e2
  have e3:=zeh (by omega) (by omega) e3
  exact⟨UInt8.toNat_inj.1 (by omega),e4⟩
 ·unfold escB at h
  simp only[List.cons_append,List.nil_append,List.cons.injEq,true_and]at h
  exact absurd h.1 (ziW m2)
 ·unfold escB at h
  simp only[List.cons_append,List.nil_append,List.cons.injEq]at h
  exact absurd h.1.symm n2
 ·unfold escB at h
  simp only[List.cons_append,List.nil_append,List.cons.injEq,true_and]at h
  exact absurd h.1.symm (ziW m1)
 ·simp only[List.cons_append,List.nil_append,List.cons.injEq,true_and]at h
  exact h
 ·simp only[List.cons_append,List.nil_append,List.cons.injEq]at h
  exact absurd h.1.symm n2
 ·unfold escB at h
  simp only[List.cons_append,List.nil_append,List.cons.injEq]at h
  exact absurd h.1 n1
 ·simp only[List.cons_append,List.nil_append,List.cons.injEq]at h
  exact absurd h.1 n1
 ·simp only[List.cons_append,List.nil_append,List.cons.injEq]at h
  exact h
theorem zgu{c:UInt8}{x y:List UInt8}(h:labB c++x=46::y):False:=by
 rcases zel c with h1| ⟨h1,_⟩| ⟨h1,_,k1⟩<;>rw[h1]at h
 ·unfold escB at h
  simp at h
 ·simp at h
 ·simp at h;exact k1 h.1
theorem zgT:∀{l m:Lab} {x y:List UInt8},za2 l++46::x=za2 m++46::y→l=m∧x=y
 | [],[],x,y,h=>by simpa [za2] using h
 | [],d::m,x,y,h=>by
  unfold za2 at h
  rw[List.flatMap_cons,List.append_assoc]at h
  exact(zgu h.symm).elim
 |c::l,[],x,y,h=>by
  unfold za2 at h
  rw[List.flatMap_cons,List.append_assoc]at h
  exact(zgu h).elim
 |c::l,d::m,x,y,h=>by
  unfold za2 at h
  rw[List.flatMap_cons,List.flatMap_cons,List.append_assoc,List.append_assoc]at h
  obtain⟨rfl,h2⟩:=labB_inj h
  obtain⟨rfl,h3⟩:=zgT (l:=l) (m:=m) h2
  exact⟨rfl,h3⟩
theorem zgU:∀{a b:Nm},(a.flatMap fun l=>za2 l++ [46])=(b.flatMap fun l=>za2 l++ [46])→a=b
 | [],[],_=>rfl
 | [],m::b,h=>by simp at h
 |l::a,[],h=>by simp at h
 |l::a,m::b,h=>by
  rw[List.flatMap_cons,List.flatMap_cons,List.append_assoc,List.append_assoc]at h
  obtain⟨rfl,h2⟩:=zgT h
  rw[zgU h2]
theorem zjW{a b:Nm}(ha:∀l∈a,l≠ [])(hb:∀l∈b,l≠ [])(h:zaX a=zaX b):a=b:=by
 have one:∀{c:Nm},(∀l∈c,l≠ [])→c≠ []→(c.flatMap fun l=>za2 l++ [46])≠ [46]:=fun {c} hc h0 he=>by
  cases c with
  |nil=>exact h0 rfl
  |cons l c=>
   have hl:=hc l (List.mem_cons_self ..)
   cases l with
   |nil=>exact hl rfl
   |cons d l=>
    rw[List.flatMap_cons]at he
    unfold za2 at he
    rw[List.flatMap_cons,List.append_assoc,List.append_assoc]at he
    exact zgu he
 unfold zaX at h
 by_cases h1:a=[]
 ·by_cases h2:b=[]
  ·rw[h1,h2]
  ·rw[if_pos h1,if_neg h2]at h;exact absurd h.symm (one hb h2)
 ·by_cases h2:b=[]
  ·rw[if_neg h1,if_pos h2]at h;exact absurd h (one ha h1)
  ·rw[if_neg h1,if_neg h2]at h;exact zgU h
theorem ziU{key:Lab}{v:Value}:∀(es:List MapEntry) (l:List (Lab×Value)) (i:Nat),es.map (fun e=>(e.key,e.val))=l.map (fun p=>(vs p.1,p.2))→l.lookup key=some v→∃j e,Instr.findNow .string (vs key) es i=some (some (i+j,v))∧es[j]? =some e∧e.key=vs key∧e.val=v
 | [],[],_,_,h=>by simp at h
 | [],_::_,_,h,_=>by simp at h
 |_::_,[],_,h,_=>by simp at h
 |e::es,(k,u)::l,i,h,hl=>by
  simp only[List.map_cons,List.cons.injEq,Prod.mk.injEq]at h
  obtain⟨⟨h1,h2⟩,h3⟩:=h
  simp only[List.lookup_cons]at hl
  split at hl
  ·rename_i heq
   cases hl
   have:key=k:=by simpa using heq
   subst this
   exact⟨0,e,by simp only[Instr.findNow,h1,zcx,heq,h2,Nat.add_zero],rfl,h1,h2⟩
  ·rename_i hne
   obtain⟨j,e',g1,g2,g3⟩:=ziU es l (i+1) h3 hl
   exact⟨j+1,e',by simp only[Instr.findNow,h1,zcx,hne];rw[g1];congr 3;omega,by simpa using g2,g3⟩
section
variable {P : Program} {d : Option Tmp} {ty : TypeId} {ps : String} {af : Array Edge} {g : Option (Nat × Bool)} {ρ : Operand → Value} {w : World} {K : Value → World → Prop}
theorem zhb{t:TypeId}{m k:Operand}{ok:Bool}{mv kv v:Value}(hm:ρ m=mv)(hk:ρ k=kv)(h:lkV P w t mv kv ok=some v)(hK:K v w):opW P ⟨d,.lookup t m k ok,ty,ps,af,g⟩ ρ w K:=by
 have:=zaQ (P:=P) (K:=K) (zkL h) hK
 rw[←hm,←hk]at this
 exact this
theorem zjn{t kt et:TypeId}{m k x:Operand}{r:Nat}{l:List (Lab×Value)}{key:Lab}{v:Value}(ht:tyU P t=some (.map kt et))(hk:tyU P kt=some .string)
  (hm:ρ m= .map (some r)) (hkey:ρ k=vs key) (hx:ρ x=v) (hat:MapAt w r l) (hin:l.lookup key=some v)
  (h:∀w',MapAt w' r l→Keep (fun i=>i=r) w w'→w'.heap.size=w.heap.size→K undef w'):
  opW P ⟨d,.mapUpdate t m k x,ty,ps,af,g⟩ ρ w K:=by
 obtain⟨es,clk,h1,h2,h3,h4⟩:=hat
 obtain⟨j,e,hf,hj,hek,hev⟩:=ziU es.toList l 0 h2 hin
 rw[Nat.zero_add]at hf
 have hj':es[j]? =some e:=by simpa using hj
 have hrun:(Instr.mapUpdate t (.map (some r)) (vs key) v).run P w= .ok () (w.putObj r (.map (es.modify j fun e=>{e with key:=vs key,val:=v}) clk)):=by
  have hck:∀e,(Instr.checkKey e 10000 kt (vs key)).run P w= .ok () w:=fun e=>zch hk 9999
  have hst:(Instr.keyThatStays (vs key) (vs key)).run P w= .ok (vs key) w:=MapKept.run_keyThatStays (d:= .string) trivial
  simp[Instr.mapUpdate,run_underlying (show P.underlying t=_ from ht),MapKept.run_getObj_map h1,hck,Instr.findKey,run_underlying (show P.underlying kt=_ from hk),hf,hj',hek,hst,MapKept.run_setObj_map _ h1,Result.andThen]
  rfl
 have hlt:r<w.heap.size:=(Array.getElem?_eq_some_iff.1 h1).1
 have hsame:∀i:Nat,(es.modify j fun e=>{e with key:=vs key,val:=v})[i]? =es[i]?:=fun i=>by
  rw[Array.getElem?_modify]
  split
  ·rename_i hi
   rw[←hi,hj']
   cases e
   simp only at hek hev
   subst hek hev
   rfl
  ·rfl
 have hmod:(es.modify j fun e=>{e with key:=vs key,val:=v})=es:=Array.ext_getElem? hsame
 rw[hmod]at hrun
 have hat':MapAt (w.putObj r (.map es clk)) r l:=⟨es,clk,World.putObj_heap_same hlt,h2,h3,h4⟩
 have hfin:=h _ hat' (zaK rfl) (by simp)
 show opR P K ((do Instr.mapUpdate t (ρ m) (ρ k) (ρ x);pure .skip:Sem Next).run P w)
 rw[hm,hkey,hx]
 simp only[Sem.run_bind,hrun,Result.andThen_ok,Sem.run_pure]
 exact hfin
end
def za1(had:List (List UInt8)):List Nm→List Nm
 | []=>[]
 |h::l=>if had.contains (zaX h) then za1 had l else h::za1 (zaX h::had) l
def zbk(t:Int)(ds:List DatL):List Nm:=za1 [] (zaz t ds)
structure NmG(n:Nm):Prop where
 ne:∀l∈n,l≠ []
 lb:∀l∈n,l.length≤1000000
 len:n.length≤1000
theorem NmG.m{n:Nm}(h:NmG n):NmM n:=⟨h.lb,by have:=h.len;omega⟩
def encH(w0:World)(_:Nat)(x:Nm)(_:Nat→Prop)(_:World)(args:Array Value):Prop:=∃v,args=#[v]∧Row w0 v (x.map vs)
theorem zh7{M:List (Lab×Value)}{t k:Lab}{v:Value}(h:M.lookup t=Option.none):(M++ [(t,v)]).lookup k=if k==t then some v else M.lookup k:=by
 induction M with
 |nil=>
  simp only[List.nil_append,List.lookup_cons,List.lookup_nil]
  split<;>simp_all
 |cons p M ih=>
  obtain⟨q,u⟩:=p
  simp only[List.lookup_cons]at h
  split at h
  ·cases h
  ·rename_i hne
   simp only[List.cons_append,List.lookup_cons]
   by_cases hk:(k==q)=true
   ·simp only[hk]
    have hkq:k=q:=by simpa using hk
    have:(k==t)=false:=by
     rw[hkq]
     exact beq_eq_false_iff_ne.2 (fun e=>by rw[e]at hne;simp at hne)
    rw[this];rfl
   ·have hk':(k==q)=false:=by simpa using hk
    simp only[hk']
    exact ih h
theorem zkV{w0 W0:World}{C:Nat→Prop}{bs:Nat}{ow tl dv:Value}{t:Int}{ds:List DatL}(hE0:Ext w0 W0)(hb:W0.heap[bs]? =some (.cells #[ow,vi t,tl,dv] 209 (0,0)))(how:one ow=true)(htl:one tl=true)(hd:Rows 5 (DatAt w0) W0 dv ds)
  (hC:∀b,C b→w0.heap.size≤b∧b<W0.heap.size) (hlen:ds.length≤1000000000) (hgood:∀n∈zaz t ds,NmG n):
  IterU Tryz.prog 177 #[.pointer (some ⟨bs,0,Option.none⟩)] W0 W0.heap.size C 1 (fun pre x=>∃suf,zbk t ds=pre++x::suf) (fun xs=>xs=zbk t ds) (encH w0):=by
 intro lp J Jx W hW hnW hJ hJx hY h0
 have hs0:=hE0.size
 refine enter Tryz.func177 Tryz.ntmps177 rfl rfl ?_
 repeat refine c_r ?_
 refine rg0 ?_
 have hm0:=new_map W
 have hEm:=Ext.alloc W (.map #[] 0)
 have hsm:=zam W (.map #[] 0)
 revert hm0 hEm hsm
 generalize W.alloc (.map #[] 0)=W1
 intro hm0 hEm hsm
 have hb1:=Ext.at (hW.trans hEm) hb
 have d4:=zah (n:=4) (l:=[ow,vi t,tl,dv]) hb1 rfl
 repeat refine c_r ?_
 refine rq ?_;intro gd K hgd hK
 try simp (disch:=first|omega|assumption|rfl) only[go_sem,d4]
 refine Fn.mono (zge (hE0.trans (hW.trans hEm)) how htl (hd.ext (hW.trans hEm)) hlen) ?_
 rintro tv X ⟨hEX,htv,htb⟩
 obtain⟨aT,cT,rfl,hcT,hgT⟩:=htv.open
 obtain⟨L,hL⟩:∃L,zaz t ds=L:=⟨_,rfl⟩
 have hH:zbk t ds=za1 [] L:=by unfold zbk;rw[hL]
 rw[hL]at htv htb hcT hgood ⊢
 simp only[hL]at hgT
 try simp only[go_sem]
 refine hK _ _ ?_;clear hK hgd;clear K;try clear gd
 have hLl:L.length≤1000000000:=by
  rw[←hL];unfold zaz
  split
  ·have:=List.length_filterMap_le (fun d:DatL=>d.names.head?) ds;omega
  ·simp
 have hEWX:=hEm.trans hEX
 have hmX:MapAt X W.heap.size []:=hm0.block (hEX.block _ (by omega) (fun h=>h))
 have hsX:=hEX.size
 repeat refine c_r ?_
 refine zap (fun m σ ds' v=>ds'=[]∧∃(i:Nat) (pre:List Nm) (U:Nat→Prop) (had:List (List UInt8)) (M:List (Lab×Value)),i+m=L.length∧za1 [] L=pre++za1 had (L.drop i)∧σ 11=vi i∧σ 10=vi L.length∧σ 9= .slice aT L.length cT∧σ 0= .func (.yield lp) #[] #[]∧σ 3= .map (some W.heap.size)∧
  J pre U v∧(∀b,U b→X.heap.size≤b)∧X.heap.size≤v.heap.size∧KeepB W0.heap.size C W v∧Ext w0 v∧MapAt v W.heap.size M∧(∀k,M.lookup k=if had.contains k then some (.bool true) else Option.none)∧Rows 1 (NmC w0) v (.slice aT L.length cT) L) L.length ?_ ?_
 ·refine⟨rfl,0,[],NoS,[],[],by omega,rfl,vr0,vq0,vq0,vq0,vq0,hJ _ _ _ _ h0 (hEWX.mono (fun _ _ h=>h.elim)),fun b h=>h.elim,Nat.le_refl _,hEWX.toB (by omega) (fun _ _ h=>h.elim),hE0.trans (hW.trans hEWX),hmX,fun k=>by simp,htv⟩
 rintro m σ ds' v ⟨rfl,i,pre,U,had,M,him,hpre,h11,h10,h9,hf0,h3,hj,hU,hsv,hKB,hEv,hM,hMl,hrow⟩
 repeat refine c_r ?_
 refine rq ?_;intro gd K hgd hK;simp (disch:=first|omega|assumption|rfl) only[go_sem,h11,h10];refine hK _ _ ?_;clear hK hgd;clear K gd
 repeat refine c_r ?_
 refine wc0 ?_ ?_
 ·intro hlt
  simp only[decide_eq_true_eq]at hlt
  have hi:i<L.length:=by omega
  have hi0:(0:Int)≤(i:Int):=by omega
  have hi1:(i:Int)<(L.length:Int):=by omega
  have hi1':(i:Int)+1=((i+1:Nat):Int):=by push_cast;rfl
  obtain⟨h,hh⟩:∃h,L[i]=h:=⟨_,rfl⟩
  have hgh:NmG h:=hh▸hgood _ (List.getElem_mem hi)
  obtain⟨cs,hcs,hv,rfl,hvr⟩:=hrow.get hi
  rw[hh]at hvr
  have hcell:zaf v (adr aT i)=some hv:=by
   have:=zaj hcs (j:=0) rfl
   rwa [Nat.mul_one,zak]at this
  obtain⟨xT,rfl⟩:=Option.isSome_iff_exists.1 (zai hcell)
  have hdr:L.drop i=h::L.drop (i+1):=by rw[List.drop_eq_getElem_cons hi,hh]
  rw[hdr]at hpre
  repeat refine c_r ?_
  refine rq ?_;intro gd K hgd hK;simp (disch:=first|omega|assumption|rfl) only[go_sem,h9,h11,hi0,hi1,hcell];refine hK _ _ ?_;clear hK hgd;clear K gd
  repeat refine c_r ?_
  refine rq ?_;intro gd K hgd hK
  try simp only[go_sem]
  refine Fn.mono (NText_ok v hv h (hvr.ext hEv) hgh.ne hgh.lb hgh.len) ?_
  rintro _ v1 ⟨rfl,hE1⟩
  try simp only[go_sem]
  refine hK _ _ ?_;clear hK hgd;clear K;try clear gd
  have hs1:=hE1.size
  have hj1:=hJ _ _ _ _ hj (hE1.mono (fun _ _ h=>h.elim))
  have hK1:KeepB W0.heap.size C W v1:=hKB.trans (hE1.toB (by omega) (fun _ _ h=>h.elim))
  have hM1:MapAt v1 W.heap.size M:=hM.block (hE1.block _ (by omega) (fun h=>h))
  have hrow1:=hrow.ext hE1
  have hEv1:=hEv.trans hE1
  have hlk:=hM1.lk (P:=Tryz.prog) (t:=272) (kt:=9) (et:=4) (z:= .bool false) rfl rfl rfl (zaX h)
  rw[hMl]at hlk
  -- the next round
  have next:∀{z:World} {σ':Sto} {pre':List Nm} {U':Nat→Prop} {had':List (List UInt8)} {M':List (Lab×Value)},za1 [] L=pre'++za1 had' (L.drop (i+1))→J pre' U' z→(∀b,U' b→X.heap.size≤b)→X.heap.size≤z.heap.size→KeepB W0.heap.size C W z→Ext w0 z→MapAt z W.heap.size M'→
    (∀k,M'.lookup k=if had'.contains k then some (.bool true) else Option.none)→Rows 1 (NmC w0) z (.slice (some xT) L.length cT) L→σ' 11=vi ((i+1:Nat):Int)→σ' 10=vi L.length→σ' 9= .slice (some xT) L.length cT→σ' 0= .func (.yield lp) #[] #[]→σ' 3= .map (some W.heap.size)→
    ∃m',m'<m∧([]:List Deferred)=[]∧∃(i:Nat) (pre:List Nm) (U:Nat→Prop) (had:List (List UInt8)) (M:List (Lab×Value)),i+m'=L.length∧za1 [] L=pre++za1 had (L.drop i)∧σ' 11=vi i∧σ' 10=vi L.length∧σ' 9= .slice (some xT) L.length cT∧σ' 0= .func (.yield lp) #[] #[]∧σ' 3= .map (some W.heap.size)∧
     J pre U z∧(∀b,U b→X.heap.size≤b)∧X.heap.size≤z.heap.size∧KeepB W0.heap.size C W z∧Ext w0 z∧MapAt z W.heap.size M∧(∀k,M.lookup k=if had.contains k then some (.bool true) else Option.none)∧Rows 1 (NmC w0) z (.slice (some xT) L.length cT) L:=
   fun a1 a2 a3 a4 a5 a6 a7 a8 a9 b1 b2 b3 b4 b5=>⟨m - 1,by omega,rfl,i+1,_,_,_,_,by omega,a1,b1,b2,b3,b4,b5,a2,a3,a4,a5,a6,a7,a8,a9⟩
  by_cases hcon:had.contains (zaX h)=true
  ·rw[if_pos hcon]at hlk
   have hskip:za1 had (h::L.drop (i+1))=za1 had (L.drop (i+1)):=by
    show(if had.contains (zaX h) then _ else _)=_
    rw[if_pos hcon]
   rw[hskip]at hpre
   repeat refine c_r ?_
   refine rq ?_;intro gd K hgd hK
   have hg4:∀n σ b,zas gd n σ (some (4,b))=zal (ev n σ (.tmp 21)) b:=(fun n σ b=>by rw[zad,show gd 4=some 21 from(by rw[hgd];rfl)];rfl)
   rw[Option.getD_some]at hlk
   try simp (disch:=first|omega|assumption|rfl) only[go_sem,h3,↓hg4]
   refine zhb (vq0) (vq0) hlk ?_
   try simp (disch:=first|omega|assumption|rfl) only[go_sem,↓hg4]
   refine hK _ _ ?_;clear hK hgd;clear K;try clear gd
   repeat refine c_r ?_
   refine wc0 ?_ ?_
   ·intro h;cases h
   intro _
   repeat refine c_r ?_
   refine rq ?_;intro gd K hgd hK
   try simp (disch:=first|omega|assumption|rfl) only[go_sem,h3]
   refine zjn (v:= .bool true) (l:=M) (key:=zaX h) rfl rfl (vq0) (vq0) (vq0) hM1 (by rw[hMl,if_pos hcon]) ?_
   intro z hMz hkz hsz
   try simp only[go_sem]
   refine hK _ _ ?_;clear hK hgd;clear K;try clear gd
   repeat refine c_r ?_
   refine rq ?_;intro gd K hgd hK;simp (disch:=first|omega|assumption|rfl) only[go_sem,h11,hi1'];refine hK _ _ ?_;clear hK hgd;clear K gd
   repeat refine c_r ?_
   refine next hpre (hJ _ _ _ _ hj1 (hkz.mono (fun b _ h=>by unfold span;omega))) hU (by omega) (hK1.trans (hkz.toB (by omega) (fun b hb h=>by omega))) (Keep.to_ext hEv1 rfl (fun b hb=>by omega) hkz) hMz hMl (hrow1.keep hkz (htb.ext (by omega)) (fun b hb _=>by omega)) (vq0) ((vq1 h10)) ((vq1 h9)) ((vq1 hf0)) ((vq1 h3))
  ·rw[if_neg hcon,Option.getD_none]at hlk
   have hno:M.lookup (zaX h)=Option.none:=by rw[hMl,if_neg hcon]
   have hcf:had.contains (zaX h)=false:=by simpa using hcon
   have hgo:za1 had (h::L.drop (i+1))=h::za1 (zaX h::had) (L.drop (i+1)):=by
    show(if had.contains (zaX h) then _ else _)=_
    rw[if_neg hcon]
   rw[hgo]at hpre
   have hsuf:∃suf,zbk t ds=pre++h::suf:=⟨_,by rw[hH,hpre]⟩
   repeat refine c_r ?_
   refine rq ?_;intro gd K hgd hK
   have hg4:∀n σ b,zas gd n σ (some (4,b))=zal (ev n σ (.tmp 21)) b:=(fun n σ b=>by rw[zad,show gd 4=some 21 from(by rw[hgd];rfl)];rfl)
   try simp (disch:=first|omega|assumption|rfl) only[go_sem,h3,↓hg4]
   refine zhb (vq0) (vq0) hlk ?_
   try simp (disch:=first|omega|assumption|rfl) only[go_sem,h3,hf0,↓hg4]
   refine Yld.mono (hY pre U h v1 _ hsuf hj1 (by omega) hK1 ⟨hv,rfl,hvr⟩) ?_
   rintro u z (⟨rfl,U',hj',hU',hkr⟩| ⟨rfl,hjx⟩)
   ·try simp (disch:=first|omega|assumption|rfl) only[go_sem,↓hg4]
    refine hK _ _ ?_;clear hK hgd;clear K;try clear gd
    have hzs:=hkr.size
    have hCb:∀b,W.heap.size≤b→b<X.heap.size→¬(C b∨U b):=fun b h1 h2 h3=>by
     rcases h3 with h3|h3
     ·have:=hC b h3;omega
     ·have:=hU b h3;omega
    have hMz:MapAt z W.heap.size M:=hM1.block (hkr.block _ (by omega) (.inr (Nat.le_refl _)) (hCb _ (Nat.le_refl _) (by omega)))
    have hrowz:Rows 1 (NmC w0) z (.slice (some xT) L.length cT) L:=hrow1.blocks fun a n c hv=>by
     have h1:=htb a n c hv
     exact hkr.block _ (by omega) (.inr (by omega)) (hCb _ (by omega) h1.2)
    have hKz:KeepB W0.heap.size C W z:=hK1.trans ⟨hkr.os,hkr.tape,hkr.output,hkr.size,fun b hb hc=>hkr.block b (by omega) (.inl hb) (fun h=>by
     rcases h with h|h
     ·exact hc h
     ·have:=hU b h;omega),hkr.drawn⟩
    have hEz:Ext w0 z:=zc2 (hE0.trans hW) hKz hs0 (fun b hb=>(hC b hb).1)
    repeat refine c_r ?_
    refine wc0 ?_ ?_
    ·intro h;cases h
    intro _
    repeat refine c_r ?_
    refine rq ?_;intro gd K hgd hK
    try simp (disch:=first|omega|assumption|rfl) only[go_sem,h3]
    refine zha (v:= .bool true) (l:=M) (key:=zaX h) rfl rfl (vq0) (vq0) (vq0) hMz hno ?_
    intro z2 hMz2 hkz hsz
    try simp only[go_sem]
    refine hK _ _ ?_;clear hK hgd;clear K;try clear gd
    repeat refine c_r ?_
    refine rq ?_;intro gd K hgd hK;simp (disch:=first|omega|assumption|rfl) only[go_sem,h11,hi1'];refine hK _ _ ?_;clear hK hgd;clear K gd
    repeat refine c_r ?_
    refine next (pre':=pre++ [h]) (had':=zaX h::had) (by rw[hpre];simp) (hJ _ _ _ _ hj' (hkz.mono (fun b _ h=>by unfold span;omega))) (fun b hb=>by
     rcases hU' b hb with h|h
     ·exact hU b h
     ·omega) (by omega) (hKz.trans (hkz.toB (by omega) (fun b hb h=>by omega))) (Keep.to_ext hEz rfl (fun b hb=>by omega) hkz) hMz2 (fun k=>?_) (hrowz.keep hkz (htb.ext (by omega)) (fun b hb _=>by omega)) (vq0) ((vq1 h10)) ((vq1 h9)) ((vq1 hf0)) ((vq1 h3))
    rw[zh7 hno,hMl,List.contains_cons]
    by_cases hk:(k==zaX h)=true
    ·rw[if_pos hk,hk];rfl
    ·rw[if_neg hk]
     have:(k==zaX h)=false:=by simpa using hk
     rw[this,Bool.false_or]
   ·try simp (disch:=first|omega|assumption|rfl) only[go_sem,↓hg4]
    refine hK _ _ ?_;clear hK hgd;clear K;try clear gd
    repeat refine c_r ?_
    refine wc0 ?_ ?_
    ·intro _
     repeat refine c_r ?_
     refine zaJ (by simp) rfl (.inr ⟨_,_,hsuf,hjx⟩)
    ·intro h;cases h
 ·intro hge
  simp only[decide_eq_false_iff_not]at hge
  rw[List.drop_eq_nil_of_le (by omega)]at hpre
  have hfin:pre=zbk t ds:=by rw[hH,hpre];simp[za1]
  repeat refine c_r ?_
  refine zaJ (by simp) rfl (.inl ⟨_,U,rfl,hfin▸hj⟩)
theorem ziQ{w:World}{ow tl dv:Value}{t:Int}:
  Fn Tryz.prog 129 #[.agg #[ow,vi t,tl,dv]] w (fun v w'=>v= .func (.func 177) #[] #[.pointer (some ⟨w.heap.size,0,Option.none⟩)]∧Ext w w'∧w'.heap.size=w.heap.size+1∧w'.heap[w.heap.size]? =some (.cells #[ow,vi t,tl,dv] 209 (0,0))):=by
 refine enter Tryz.func129 Tryz.ntmps129 rfl rfl ?_
 repeat refine c_r ?_
 refine rg0 ?_
 repeat refine c_r ?_
 refine zaA ?_
 intro w1 hE1 hs1 hA
 refine rg0 ?_
 repeat refine c_r ?_
 refine rt0 Tryz.ntmps129 ?_
 exact⟨rfl,hE1,hs1,hA⟩
structure ResL where
 kind:Int
 data:List DatL
 name:Nm
 wild:Bool
 glue:List (Nm×List DatL)
def GlC(w0 w:World)(cs:List Value)(x:Nm×List DatL):Prop:=∃hv dv,cs=[hv,dv]∧Row w0 hv (x.1.map vs)∧Rows 5 (DatAt w0) w dv x.2
structure ResAt(w0 w:World)(cs:List Value)(r:ResL):Prop where
 ex:∃dv nv gv,cs=[vi r.kind,dv,nv,.bool r.wild,gv]∧Rows 5 (DatAt w0) w dv r.data∧Row w nv (r.name.map vs)∧Rows 2 (GlC w0 w) w gv r.glue
theorem ResAt.ext{w0 w x:World}{cs:List Value}{r:ResL}(h:ResAt w0 w cs r)(hE:Ext w x):ResAt w0 x cs r:=by
 obtain⟨dv,nv,gv,e,h1,h2,h3⟩:=h.ex
 refine⟨dv,nv,gv,e,h1.ext hE,h2.ext hE,(h3.ext hE).to fun cs x hx=>?_⟩
 obtain⟨hv,dv,e,g1,g2⟩:=hx
 exact⟨hv,dv,e,g1,g2.ext hE⟩
def GlB(w0:World)(B:Nat)(w:World)(cs:List Value)(x:Nm×List DatL):Prop:=∃hv dv,cs=[hv,dv]∧Row w0 hv (x.1.map vs)∧Rows 5 (DatAt w0) w dv x.2∧BlkB B w dv
structure ResB(w0:World)(B:Nat)(w:World)(cs:List Value)(r:ResL):Prop where
 ex:∃dv nv gv,cs=[vi r.kind,dv,nv,.bool r.wild,gv]∧Rows 5 (DatAt w0) w dv r.data∧BlkB B w dv∧((Row w nv (r.name.map vs)∧BlkB B w nv)∨Row w0 nv (r.name.map vs))∧Rows 2 (GlB w0 B w) w gv r.glue∧BlkB B w gv
theorem ResB.keep{w0 w x:World}{B:Nat}{cs:List Value}{r:ResL}(h:ResB w0 B w cs r){S:Nat→Prop}(hk:Keep S w x)(hS:∀b,B≤b→b<w.heap.size→¬S b):ResB w0 B x cs r:=by
 obtain⟨dv,nv,gv,e,h1,h2,h3,h4,h5⟩:=h.ex
 refine⟨dv,nv,gv,e,h1.keep hk h2 hS,h2.ext hk.size,?_,(h4.keep hk h5 hS).to fun cs y hy=>?_,h5.ext hk.size⟩
 ·rcases h3 with ⟨h3,h6⟩|h3
  ·exact .inl ⟨h3.blocks fun a n c hv=>hk.block _ (h6 a n c hv).2 (hS _ (h6 a n c hv).1 (h6 a n c hv).2),h6.ext hk.size⟩
  ·exact .inr h3
 ·obtain⟨hv,dv,e,g1,g2,g3⟩:=hy
  exact⟨hv,dv,e,g1,g2.keep hk g3 hS,g3.ext hk.size⟩
theorem ResB.at{w0 w:World}{B:Nat}{cs:List Value}{r:ResL}(h:ResB w0 B w cs r)(hE:Ext w0 w):ResAt w0 w cs r:=by
 obtain⟨dv,nv,gv,e,h1,h2,h3,h4,h5⟩:=h.ex
 refine⟨dv,nv,gv,e,h1,?_,h4.to fun cs y hy=>?_⟩
 ·rcases h3 with ⟨h3,_⟩|h3
  ·exact h3
  ·exact h3.ext hE
 ·obtain⟨hv,dv,e,g1,g2,_⟩:=hy
  exact⟨hv,dv,e,g1,g2⟩
theorem ResB.mono{w0 w:World}{B B':Nat}{cs:List Value}{r:ResL}(h:ResB w0 B w cs r)(hB:B'≤B):ResB w0 B' w cs r:=by
 obtain⟨dv,nv,gv,e,h1,h2,h3,h4,h5⟩:=h.ex
 refine⟨dv,nv,gv,e,h1,h2.mono hB,h3.imp (fun h=>⟨h.1,h.2.mono hB⟩) id,h4.to fun cs y hy=>?_,h5.mono hB⟩
 obtain⟨hv,dv,e,g1,g2,g3⟩:=hy
 exact⟨hv,dv,e,g1,g2,g3.mono hB⟩
theorem ResB.cells{w0 w:World}{B:Nat}{cs:List Value}{r:ResL}(h:ResB w0 B w cs r):cs.length=5∧∀v∈cs,one v=true:=by
 obtain⟨dv,nv,gv,rfl,h1,h2,h3,h4,h5⟩:=h.ex
 obtain⟨a1,c1,rfl,_⟩:=h1.open
 obtain⟨a2,c2,rfl,_⟩:=h4.open
 have hn:one nv=true:=by
  rcases h3 with ⟨⟨a,c,rfl,_⟩,_⟩| ⟨a,c,rfl,_⟩<;>rfl
 refine⟨rfl,fun v hv=>?_⟩
 simp at hv
 rcases hv with rfl|rfl|rfl|rfl|rfl
 ·rfl
 ·rfl
 ·exact hn
 ·rfl
 ·rfl
def zdw(R:List RecL):Prop:=∀r∈R,∀n∈r.dat.names,NmG n
theorem zdo{R:List RecL}{n:Nm}{t:Int}{d:DatL}(h:d∈datC R n t):∃r∈R,r.dat=d:=by
 unfold datC at h
 obtain⟨x,hx,rfl⟩:=List.mem_map.1 h
 have:∀x∈ofC R n t,∃r∈R,r.dat=x.dat:=by
  unfold ofC
  exact zbF (Q:=fun x=>∃r∈R,r.dat=x.dat) (fun a b h=>h) (fun x hx=>⟨x,(List.mem_filter.1 hx).1,rfl⟩)
 exact this x hx
theorem zb0{R:List RecL}(hR:zdw R){n:Nm}{t u:Int}{ds:List DatL}(hds:∀d∈ds,d∈datC R n t):∀x∈zaz u ds,NmG x:=by
 intro x hx
 unfold zaz at hx
 split at hx
 ·obtain⟨d,hd,hn⟩:=List.mem_filterMap.1 hx
  obtain⟨r,hr,rfl⟩:=zdo (hds d hd)
  exact hR r hr x (List.mem_of_mem_head? hn)
 ·cases hx
theorem zbe{R:List RecL}{n:Nm}{t:Int}:(datC R n t).length≤R.length:=by
 unfold datC ofC
 rw[List.length_map]
 exact Nat.le_trans (zcb _) (List.length_filter_le _ _)
theorem zgF{R:List RecL}{n:Nm}{t:Int}:ofC R n t≠ []↔datC R n t≠ []:=by
 unfold datC
 rw[ne_eq,ne_eq,List.map_eq_nil_iff]
def toN(t:Int)(ds:List DatL):Nm:=(zbk t ds).getLast?.getD []
set_option maxHeartbeats 1000000 in
theorem zje{w0 w:World}{ov lv nv:Value}{o n:Nm}{R:List RecL}{t:Int}(hz:ZnAt w0 w ov lv o R)(hR:zdw R)(hn:Row w nv (n.map vs))(hok:NmS n):
  Fn Tryz.prog 131 #[.agg #[ov,lv],nv,vi t] w (fun v w'=>Ext w w'∧∃dv tv,v= .tuple #[dv,tv,.bool (decide (datC R n t≠ []))]∧Rows 5 (DatAt w0) w' dv ((datC R n t).take 1)∧BlkB w.heap.size w' dv∧Row w0 tv ((toN t ((datC R n t).take 1)).map vs)):=by
 obtain⟨ao,co,hov,_⟩:=id hz.org
 obtain⟨al,cl,hlv,_⟩:=hz.recs.open
 rw[hov,hlv]
 refine enter Tryz.func131 Tryz.ntmps131 rfl rfl ?_
 repeat refine c_r ?_
 refine rg0 ?_
 repeat refine c_r ?_
 rw[←hov,←hlv]
 refine zaA ?_
 intro w1 hE1 hs1 hA
 have p1:zaf w1 (some ⟨w.heap.size,1,Option.none⟩)=some lv:=zac hA rfl
 have hz1:=hz.ext hE1
 refine rq ?_;intro gd K hgd hK
 try simp (disch:=first|omega|assumption|rfl) only[go_sem,p1,Nat.zero_add]
 refine Fn.mono (Of_ok hz1.e0 hz1.recs (hn.ext hE1) hok.lb (by have:=hok.len;omega) hz.ok hz.rl) ?_
 rintro _ w2 ⟨hE2,ow,ty,tl,dv,rfl,how,hty,hdv,hdb⟩
 have hdd:(ofC R n t).map RecL.dat=datC R n t:=rfl
 rw[hdd]at hdv
 obtain⟨bb,hbb⟩:∃bb:Bool,decide (datC R n t≠ [])=bb:=⟨_,rfl⟩
 rw[show decide (ofC R n t≠ [])=bb from by rw[←hbb];exact decide_eq_decide.2 (zgF (R:=R) (n:=n) (t:=t))]
 try simp only[go_sem]
 have hB3:=zaw w2 (.cells #[.slice Option.none 0 0,vi 0,v32 0,.slice Option.none 0 0] 209 (0,0))
 have hE4:=Ext.alloc w2 (.cells #[.slice Option.none 0 0,vi 0,v32 0,.slice Option.none 0 0] 209 (0,0))
 have hs4:=zam w2 (.cells #[.slice Option.none 0 0,vi 0,v32 0,.slice Option.none 0 0] 209 (0,0))
 revert hB3 hE4 hs4
 generalize w2.alloc (.cells #[.slice Option.none 0 0,vi 0,v32 0,.slice Option.none 0 0] 209 (0,0))=w3
 intro hB3 hE4 hs4
 obtain⟨ad,cd,hdv',hcd,_⟩:=hdv.open
 refine zaE (P:=Tryz.prog) (t:=209) (l:=[ow,vi ty,v32 tl,dv]) hB3 rfl (fun v h=>by
  simp at h
  rcases h with rfl|rfl|rfl|rfl
  ·exact how
  ·rfl
  ·rfl
  ·rw[hdv'];rfl) rfl rfl ?_
 intro w4 hs5 hB5 hk5
 try simp only[go_sem]
 refine hK _ _ ?_;clear hK hgd;clear K;try clear gd
 have hE5:Ext w2 w4:=Keep.to_ext hE4 rfl (fun b hb=>by omega) hk5
 have hE14:=hE2.trans hE5
 have hEw4:=hE1.trans hE14
 have q3:zaf w4 (some ⟨w2.heap.size,3,Option.none⟩)=some dv:=zcl hB5 rfl
 have hdv4:=hdv.ext hE5
 have hdb4:BlkB w.heap.size w4 dv:=(hdb.ext hE5.size).mono hE1.size
 repeat refine c_r ?_
 refine rg0 ?_
 repeat refine c_r ?_
 by_cases hne:datC R n t≠ []
 ·rw[decide_eq_true hne]at hbb
  subst hbb
  refine zaB (t:=false) (vq0) (fun h=>by cases h) ?_
  intro _
  have hpos:0<(datC R n t).length:=List.length_pos_iff.2 hne
  have htk:((datC R n t).take 1).length=1:=by rw[List.length_take];omega
  rw[hdv']at hdv4 hdb4 q3
  have hcd':=hdv4.len.2
  have hd1:Rows 5 (DatAt w0) w4 (.slice ad 1 cd) ((datC R n t).take 1):=hdv4.take (by omega) (by omega)
  have h01:(0:Int)≤1:=by omega
  have h11:(1:Int)≤(cd:Int):=by omega
  repeat refine c_r ?_
  refine rg0 ?_
  refine zaA ?_
  intro w5 hE6 hs6 hA6
  have q3':=zab hE6 q3
  have t1:Int.toNat 1=1:=rfl
  repeat refine c_r ?_
  refine rq ?_;intro gd K hgd hK
  try simp (disch:=first|omega|assumption|rfl) only[go_sem,q3',Nat.zero_add,h01,h11,t1,Nat.sub_zero,Nat.zero_mul,zak,ite_self]
  refine⟨by kernel_rfl,?_⟩
  rw[show bdV Tryz.prog 209 [(1,vi t),(3,.slice ad 1 cd)]=some (.agg #[.slice Option.none 0 0,vi t,v32 0,.slice ad 1 cd]) from by kernel_rfl]
  try simp only[go_sem]
  refine Fn.mono ziQ ?_
  rintro _ w6 ⟨rfl,hE7,hs7,hb7⟩
  try simp only[go_sem]
  refine hK _ _ ?_;clear hK hgd;clear K;try clear gd
  have hE47:=hE6.trans hE7
  have hEw6:=hEw4.trans hE47
  have e1:=hE1.size
  have e2:=hE14.size
  have e3:=hz.e0.size
  have hit:=zkV (C:=fun b=>b=w4.heap.size) (hz.e0.trans hEw6) hb7 rfl rfl (hd1.ext hE47) (fun b hb=>by omega) (by rw[htk];decide) (zb0 hR (t:=t) (n:=n) (fun d hd=>List.mem_of_mem_take hd))
  have hA7:=hE7.at hA6
  repeat refine c_r ?_
  refine zgK (g:=177) (cap:=#[.pointer (some ⟨w5.heap.size,0,Option.none⟩)]) (vq0) rfl hit (Keep.refl _ _) (Nat.le_refl _) (fun b hb=>by omega)
   (fun x U B args h=>by obtain⟨v,h,_⟩:=h;rw[h];rfl)
   (fun pre U B=>(∀b,¬U b)∧Keep (fun b=>b=w4.heap.size) w6 B∧∃tv,B.heap[w4.heap.size]? =some (.cells #[tv] 23 (0,0))∧Row w0 tv ((pre.getLast?.getD []).map vs))
   (fun _ _ _=>False) ?_ (fun _ _ _ _ h _=>h.elim) ?_ ?_ ?_ (fun _ _ _ _ _ _ h _=>h.elim)
  ·rintro pre U A B ⟨hU,hk,tv,h1,h2⟩ _ hk2
   have hk3:Keep (fun b=>b=w4.heap.size) w6 B:=⟨hk2.os.trans hk.os,hk2.tape.trans hk.tape,hk2.output.trans hk.output,Nat.le_trans hk.size hk2.size,fun b hb hne=>(hk2.block b (by have:=hk.size;omega) (by unfold span;omega)).trans (hk.block b hb hne),Nat.le_trans hk.drawn hk2.drawn⟩
   exact⟨hU,hk3,tv,(hk2.block _ (Array.getElem?_eq_some_iff.1 h1).1 (by unfold span;omega)).trans h1,h2⟩
  ·exact⟨fun b h=>h,Keep.refl _ _,_,hA7,⟨Option.none,0,rfl,Nat.le_refl _,fun j h=>absurd h (by simp)⟩⟩
  ·rintro lp pre U x A args ⟨suf,hxs⟩ hszA ⟨hU,hk,tv,h1,h2⟩ _ ⟨xv,rfl,hxr⟩
   obtain⟨ax,cx,hxv,_⟩:=id hxr
   refine rq ?_;intro gd K hgd hK
   try simp only[go_sem]
   refine hK _ _ ?_;clear hK hgd;clear K;try clear gd
   refine zav ?_
   refine⟨rfl,Keep.refl _ _,fun Y hY=>?_⟩
   have h1Y:=(hY.block _ (Array.getElem?_eq_some_iff.1 h1).1 (by unfold two;omega)).trans h1
   have hkY:Keep (fun b=>b=w4.heap.size) w6 Y:=⟨hY.os.trans hk.os,hY.tape.trans hk.tape,hY.output.trans hk.output,Nat.le_trans hk.size hY.size,fun b hb hne=>(hY.block b (by have:=hk.size;omega) (by unfold two;omega)).trans (hk.block b hb hne),Nat.le_trans hk.drawn hY.drawn⟩
   repeat refine c_r ?_
   refine rq ?_;intro gd K hgd hK
   try simp only[go_sem]
   refine zaV (P:=Tryz.prog) (t:=23) (j:=0) (l:=[tv]) h1Y (by simp) (by rw[hxv];rfl) rfl rfl ?_
   intro z hz' hbz hkz
   try simp only[go_sem]
   refine hK _ _ ?_;clear hK hgd;clear K;try clear gd
   simp only[List.set_cons_zero]at hbz
   repeat refine c_r ?_
   exact⟨U,⟨hU,hkY.trans hkz,xv,hbz,by simpa using hxr⟩,fun b hb=> .inl hb,hkz.mono (fun b _ h=> .inl h)⟩
  ·rintro xs U B rfl hszB _ ⟨hU,hk,tv,h1,h2⟩ hD
   have hdB:Rows 5 (DatAt w0) B (.slice ad 1 cd) ((datC R n t).take 1):=(hd1.ext hE47).blocks fun a m c hv=>by
    injection hv with g1
    subst g1
    have:=hdb4 a _ _ rfl
    exact hk.block _ (by have:=hE47.size;omega) (by omega)
   have hB5':B.heap[w2.heap.size]? =some (.cells [ow,vi ty,v32 tl,dv].toArray 209 (0,0)):=(hk.block _ (by have:=hE5.size;have:=hE47.size;omega) (by omega)).trans (Ext.at hE47 hB5)
   have q3B:zaf B (some ⟨w2.heap.size,3,Option.none⟩)=some (.slice ad (datC R n t).length cd):=zcl hB5' (by rw[hdv'];rfl)
   have q4B:zaf B (some ⟨w4.heap.size,0,Option.none⟩)=some tv:=zac h1 rfl
   repeat refine c_r ?_
   refine zaN (fun _=>false) [(0,true),(1,true),(2,true),(4,true),(3,false),(5,true),(6,true),(7,true)] NoS mixed (by kernel_rfl) ?_;intro gd K x hgd hx hxe hK;clear hxe
   have r1:=zab hx q3B
   have r2:=zab hx q4B
   simp (disch:=first|omega|assumption|rfl) only[go_sem,r1,r2,Nat.zero_add,h01,h11,t1,Nat.sub_zero,Nat.zero_mul,zak,ite_self]
   refine Fn.mono (P_cd.Clip_ok (by omega)) ?_
   rintro _ y0 ⟨rfl,hy0⟩
   refine⟨.inr (by rw[hy0];exact Keep.refl _ _),?_⟩
   rw[hy0]
   clear hy0 y0
   simp (disch:=first|omega|assumption|rfl) only[go_sem,r1,r2,Nat.zero_add]
   refine hK _ _ ?_;clear hK hgd;clear K;try clear gd
   repeat refine c_r ?_
   refine zbW (.inr rfl) Tryz.ntmps131 rfl (Ext.at hx hD) ?_
   intro Z hkZ hsZ
   have hEwB:Ext w B:=Keep.to_ext hEw6 rfl (fun b hb=>by omega) hk
   have hDlt:w6.heap.size<B.heap.size:=(Array.getElem?_eq_some_iff.1 hD).1
   have hrx:Rows 5 (DatAt w0) x (.slice ad 1 1) ((datC R n t).take 1):=by
    have h9:=(hdB.ext hx).take (m:=1) (c2:=1) (Nat.le_refl 1) (Nat.le_refl 1)
    rw[List.take_take]at h9
    exact h9
   refine⟨_,zar (v:= .slice ad 1 1) (vr0) (zar (v:=tv) (vr0) (zar (v:= .bool true) (vr0) zau)),Keep.to_ext (hEwB.trans hx) rfl (fun b hb=>by have:=hE47.size;omega) hkZ,_,tv,by rw[decide_eq_true hne];rfl,?_,?_,?_⟩
   ·exact hrx.blocks fun a m c hv=>by
     injection hv with g1
     subst g1
     have:=hdb4 a _ _ rfl
     exact hkZ.block _ (by have:=hx.size;have:=hk.size;have:=hE47.size;omega) (by have:=hE47.size;omega)
   ·exact(hdb4.same.ext (by have:=hx.size;have:=hk.size;have:=hE47.size;omega))
   ·exact h2
 ·have hnil:datC R n t=[]:=by simpa using hne
  rw[decide_eq_false hne]at hbb
  subst hbb
  refine zaB (t:=true) (vq0) ?_ (fun h=>by cases h)
  intro _
  repeat refine c_r ?_
  refine rg0 ?_
  repeat refine c_r ?_
  refine zay (.inr rfl) Tryz.ntmps131 rfl (zar (v:= .slice Option.none 0 0) (vr0) (zar (v:= .slice Option.none 0 0) (vr0) (zar (v:= .bool false) (vr0) zau))) ?_
  refine⟨hEw4,_,_,by rw[decide_eq_false hne];rfl,by rw[hnil];exact Rows.nil _ _ _,BlkB.nil,?_⟩
  have h0:toN t (List.take 1 (datC R n t))=[]:=by
   rw[hnil]
   unfold toN zbk zaz
   split<;>rfl
  rw[h0]
  exact⟨Option.none,0,rfl,Nat.le_refl _,fun j h=>absurd h (by simp)⟩
abbrev Key:=Nm×(Int×List DatL)
structure SX where
 key:Key
 ow:Value
 ttl:Int
 dv:Value
def SX.cells(x:SX):List Value:=[x.ow,vi x.key.2.1,v32 x.ttl,x.dv]
def sxC(cs:List Value)(x:SX):Prop:=cs=x.cells∧one x.ow=true∧one x.dv=true
theorem sx_shape:zdb 4 sxC:=by
 refine⟨fun h=>?_,fun h=>?_⟩
 ·rw[h.1];rfl
 ·intro q hq
  rw[h.1]at hq
  simp[SX.cells]at hq
  rcases hq with rfl|rfl|rfl|rfl
  ·exact h.2.1
  ·rfl
  ·rfl
  ·exact h.2.2
def isK(k:Key)(c:RecL):Bool:=decide (zaq k.1=zaq c.owner) && decide (k.2.1=c.dat.ty)
def zcL(G:List Key)(c:RecL):Bool:=match G.getLast? with
 |some k=>isK k c
 |Option.none=>false
def addK(k:Key)(c:RecL):Key:=(k.1,(k.2.1,k.2.2++ [c.dat]))
def newK(c:RecL):Key:=(c.owner,(c.dat.ty,[c.dat]))
def zcw(G:List Key)(c:RecL):List Key:=match G.getLast? with
 |some k=>if isK k c then G.dropLast++ [addK k c] else G++ [newK c]
 |Option.none=>[newK c]
def zbr(l:List RecL):List Key:=l.foldl zcw []
structure SI(w0:World)(B:Nat)(A:World)(ov:Value)(G:List SX):Prop where
 own:Owns 4 sxC B A 222 ov G
 row:∀x∈G,Row w0 x.ow (x.key.1.map vs)∧Rows 5 (DatAt w0) A x.dv x.key.2.2∧BlkB B A x.dv∧∀a n c,x.dv= .slice (some a) n c→some a.block≠ov.ownBlock
 nm:∀x∈G,LB x.key.1∧x.key.1.length≤1000000000000000
theorem SI.ext{w0 A A':World}{B:Nat}{ov:Value}{G:List SX}(h:SI w0 B A ov G)(hE:Ext A A'):SI w0 B A' ov G:=
 ⟨h.own.ext hE,fun x hx=>by
  obtain⟨h1,h2,h3,h4⟩:=h.row x hx
  exact⟨h1,h2.ext hE,h3.ext hE.size,h4⟩,h.nm⟩
theorem SI.turn{w0 A A':World}{B b cap:Nat}{G:List SX}{x x':SX}{L:List (List Value)}(h:SI w0 B A (.slice (some ⟨b,0,Option.none⟩) (G.length+1) cap) (G++ [x]))(hk:Keep (fun i=>i=b) A A')(hB:B≤b)(hc:G.length+1≤cap)(hm:cap≤maxLen)
  (hL:SD 4 A' b 222 cap L) (hLl:L.length=G.length+1) (hat:∀i (h:i<L.length) (h':i<(G++ [x']).length),sxC L[i] (G++ [x'])[i])
  (hx:Row w0 x'.ow (x'.key.1.map vs)∧Rows 5 (DatAt w0) A x'.dv x'.key.2.2∧BlkB B A x'.dv∧∀a n c,x'.dv= .slice (some a) n c→a.block≠b) (hnm:LB x'.key.1∧x'.key.1.length≤1000000000000000):SI w0 B A' (.slice (some ⟨b,0,Option.none⟩) (G.length+1) cap) (G++ [x']):=by
 have hgl:(G++ [x']).length=G.length+1:=by simp
 have hown:Owns 4 sxC B A' 222 (.slice (some ⟨b,0,Option.none⟩) (G++ [x']).length cap) (G++ [x']):=Owns.of_sd hL hB (by omega) hm (by omega) hat
 rw[hgl]at hown
 refine⟨hown,fun y hy=>?_,fun y hy=>?_⟩
 rotate_left
 ·rcases List.mem_append.1 hy with hy|hy
  ·exact h.nm y (List.mem_append_left _ hy)
  ·rw[List.mem_singleton.1 hy];exact hnm
 rcases List.mem_append.1 hy with hy|hy
 ·obtain⟨h1,h2,h3,h4⟩:=h.row y (List.mem_append_left _ hy)
  exact⟨h1,h2.blocks fun a n c hv=>hk.block _ (h3 a n c hv).2 (fun e=>h4 a n c hv (by rw[e];rfl)),h3.ext hk.size,h4⟩
 ·rw[List.mem_singleton.1 hy]
  obtain⟨h1,h2,h3,h4⟩:=hx
  exact⟨h1,h2.blocks fun a n c hv=>hk.block _ (h3 a n c hv).2 (h4 a n c hv),h3.ext hk.size,fun a n c hv e=>h4 a n c hv (by injection e)⟩
theorem SI.app{w0 A A':World}{B:Nat}{ov v':Value}{G:List SX}{s:SX}(h:SI w0 B A ov G)(hs:Row w0 s.ow (s.key.1.map vs)∧Rows 5 (DatAt w0) A s.dv s.key.2.2∧BlkB B A s.dv∧∀a n c,s.dv= .slice (some a) n c→some a.block≠ov.ownBlock)
  (hnm:LB s.key.1∧s.key.1.length≤1000000000000000) (ho:Owns 4 sxC B A' 222 v' (G++ [s])) (hk:Keep (fun b=>some b=ov.ownBlock) A A') (hb:∀b,some b=v'.ownBlock→some b=ov.ownBlock∨A.heap.size≤b):SI w0 B A' v' (G++ [s]):=by
 refine⟨ho,fun y hy=>?_,fun y hy=>?_⟩
 ·have hy2:Row w0 y.ow (y.key.1.map vs)∧Rows 5 (DatAt w0) A y.dv y.key.2.2∧BlkB B A y.dv∧∀a n c,y.dv= .slice (some a) n c→some a.block≠ov.ownBlock:=by
   rcases List.mem_append.1 hy with hy|hy
   ·exact h.row y hy
   ·rw[List.mem_singleton.1 hy];exact hs
  obtain⟨h1,h2,h3,h4⟩:=hy2
  refine⟨h1,h2.blocks fun a n c hv=>hk.block _ (h3 a n c hv).2 (h4 a n c hv),h3.ext hk.size,fun a n c hv e=>?_⟩
  rcases hb _ e with e|e
  ·exact h4 a n c hv e
  ·have:=(h3 a n c hv).2;omega
 ·rcases List.mem_append.1 hy with hy|hy
  ·exact h.nm y hy
  ·rw[List.mem_singleton.1 hy];exact hnm
theorem SI.mono{w0 A:World}{B B':Nat}{ov:Value}{G:List SX}(h:SI w0 B A ov G)(hB:B'≤B):SI w0 B' A ov G:=
 ⟨h.own.mono hB,fun x hx=>by
  obtain⟨h1,h2,h3,h4⟩:=h.row x hx
  exact⟨h1,h2,h3.mono hB,h4⟩,h.nm⟩
theorem ziA{LL:List (List Value)}{G':List SX}{s s':SX}{X:List Value}{j:Nat}(hj:G'.length=j)(hl:LL.length=(G'++ [s]).length)(hat:∀i (h:i<LL.length) (h':i<(G'++ [s]).length),sxC LL[i] (G'++ [s])[i])(hX:sxC X s'):
  ∀i (h:i<(LL.set j X).length) (h':i<(G'++ [s']).length),sxC (LL.set j X)[i] (G'++ [s'])[i]:=by
 have h:=zlu (j:=j) hl hat hX
 have e:(G'++ [s]).set j s'=G'++ [s']:=by
  rw[←hj,List.set_append_right _ _ (Nat.le_refl _),Nat.sub_self];rfl
 intro i h1 h2
 have:=h i h1 (by rw[e];exact h2)
 simp only[e]at this
 exact this
theorem zc0{y:Addr}{n:Nat}(h:y.block<n):offS (zbB n) (some y):=fun a ha hb=>by
 cases ha
 unfold zbB at hb
 exact absurd (show n≤y.block from hb) (by omega)
theorem zk9{w x:World}(h:Keep (zbB w.heap.size) w x):Ext w x:=Keep.to_ext (Keep.refl _ _) rfl (fun _ hb=>hb) h
set_option maxHeartbeats 4000000 in
theorem RSets_ok(w0 w:World)(hE0:Ext w0 w){v:Value}{R:List RecL}(hR:Rows 7 (RecAt w0) w v R)(hok:∀r∈R,zbn r)(hlen:R.length≤1000000000):
  Fn Tryz.prog 184 #[v] w (fun u w'=>Ext w w'∧∃G:List SX,G.map SX.key=zbr (zaP R)∧SI w0 w.heap.size w' u G):=by
 have hok':∀r∈zaP R,zbn r:=zbF (fun a b h=>⟨h.lb,h.len,h.dat⟩) hok
 have hlen':(zaP R).length≤1000000000:=Nat.le_trans (zcb R) hlen
 refine enter Tryz.func184 Tryz.ntmps184 rfl rfl ?_
 repeat refine c_r ?_
 refine rg0 ?_
 repeat refine c_r ?_
 refine rg0 ?_
 repeat refine c_r ?_
 refine rq ?_;intro gd K hgd hK
 try simp only[go_sem]
 refine Fn.mono (zhN w0 w hE0 hR hok hlen) ?_
 rintro cv w1 ⟨hcv,hE1⟩
 try simp only[go_sem]
 refine hK _ _ ?_;clear hK hgd;clear K;try clear gd
 obtain⟨L,hL⟩:∃L,zaP R=L:=⟨_,rfl⟩
 rw[hL]at hok' hlen' hcv ⊢
 obtain⟨aC,cC,rfl,hcC,hgC⟩:=hcv.rows.open
 have hE01:=hE0.trans hE1
 have s1:=hE1.size
 repeat refine c_r ?_
 refine rg0 ?_
 repeat refine c_r ?_
 refine zap (fun m σ ds A=>ds=[]∧∃(i:Nat) (ov:Value) (G:List SX),i+m=L.length∧σ 5=vi i∧σ 4= .slice aC L.length cC∧σ 3=ov∧G.map SX.key=zbr (L.take i)∧G.length≤i∧(∀x∈G,x.key.2.2.length≤i)∧SI w0 w1.heap.size A ov G∧Ext w1 A) L.length ?_ ?_
 ·exact⟨rfl,0,.slice Option.none 0 0,[],by omega,vr0,vq0,vq0,rfl,Nat.le_refl _,fun x h=>absurd h (by simp),⟨Owns.nil _ _ _ _ _,fun x h=>absurd h (by simp),fun x h=>absurd h (by simp)⟩,Keep.refl _ _⟩
 rintro m σ ds A ⟨rfl,i,ov,G,him,h5,h4,h3,hG,hGi,hGl2,hSI,hEA⟩
 have sA:=hEA.size
 repeat refine c_r ?_
 refine rg2 h5 h4 ?_
 repeat refine c_r ?_
 refine wc0 ?_ ?_
 ·intro hlt
  simp only[decide_eq_true_eq]at hlt
  have hi:i<L.length:=by omega
  have hi0:(0:Int)≤(i:Int):=by omega
  have hi1:(i:Int)<(L.length:Int):=by omega
  have hi1':(i:Int)+1=((i+1:Nat):Int):=by push_cast;rfl
  obtain⟨cr,hcr,hRr⟩:=hgC i hi
  obtain⟨c,hc⟩:∃c,L[i]=c:=⟨_,rfl⟩
  rw[hc]at hRr
  have hcok:zbn c:=hc▸hok' _ (List.getElem_mem hi)
  have hcl:=hcok.len
  obtain⟨ow,dsc,hcrE,o1,o2,g0,g1,g2,gd⟩:=hRr.cells
  obtain⟨xC,rfl⟩:=Option.isSome_iff_exists.1 (zan hcr)
  obtain⟨xi,hxi⟩:∃xi,adr (some xC) (i*7)=some xi:=⟨_,rfl⟩
  rw[hxi]at hcr
  obtain⟨xd,hxd⟩:∃xd,adr (some xi) 2=some xd:=⟨_,rfl⟩
  have rc:∀{x},Ext w1 x→zaf x (some xi)=some ow∧zaf x (adr (some xi) 1)=some (v32 c.ttl)∧zaf x (some xd)=some (vi c.dat.ty)∧zat x (some xd) 5=some dsc:=fun {x} hx=>by
   have hcx:=zae hx hcr
   have e0:=zaj hcx g0
   have e2:=zaj hcx g2
   have e5:=za9 (m:=2) (k:=5) hcx
   rw[zak]at e0
   rw[hxd]at e2 e5
   rw[gd]at e5
   exact⟨e0,zaj hcx g1,e2,e5⟩
  have hstep:zbr (L.take (i+1))=zcw (zbr (L.take i)) c:=by
   unfold zbr
   rw[zao hi,hc,List.foldl_append];rfl
  obtain⟨av,cv2,hov,hcv2,hgv⟩:=hSI.own.rows.open
  have hSI0:=hSI
  rw[hov]at h3 hSI
  repeat refine c_r ?_
  refine rg1 h3 ?_
  repeat refine c_r ?_
  refine zaC (Q:=fun e σ' ds' v'=>e= .normal∧ds'=[]∧σ' 6=vi ((G.length:Int) - 1)∧σ' 5=vi i∧σ' 4= .slice (some xC) L.length cC∧σ' 3= .slice av G.length cv2∧Ext A v'∧σ' 46= .bool (zcL (G.map SX.key) c)) ?_ ?_
  ·rcases List.eq_nil_or_concat G with hG0| ⟨G',s,hG0⟩
   ·have hn:¬((0:Int)≤(G.length:Int) - 1):=by rw[hG0];simp
    have hlk:zcL (G.map SX.key) c=false:=by rw[hG0];rfl
    refine zaN (fun _=>false) [(0,true),(1,true),(2,true),(3,true),(4,true),(5,true),(6,true),(7,true),(8,true),(9,true),(10,true),(11,true),(12,true),(13,false),(14,true),(15,true),(16,true),(17,true),(18,true),(19,true),(20,true),(21,true),(22,true),(23,true),(24,true),(25,true),(26,true),(27,true),(28,true)] NoS mixed (by kernel_rfl) ?_;intro gd K x hgd hx hxe hK;clear hxe
    have hg2:∀n σ b,zas gd n σ (some (2,b))=zal (ev n σ (.tmp 20)) b:=(fun n σ b=>by rw[zad,show gd 2=some 20 from(by rw[hgd];rfl)];rfl);have hg15:∀n σ b,zas gd n σ (some (15,b))=zal (ev n σ (.tmp 33)) b:=(fun n σ b=>by rw[zad,show gd 15=some 33 from(by rw[hgd];rfl)];rfl)
    simp (disch:=first|omega|assumption|rfl) only[go_sem,h5,h4,h3,decide_eq_false hn,↓hg2,↓hg15]
    refine hK _ _ ?_;clear hK hgd;clear K;try clear gd
    exact⟨rfl,rfl,vq0,(vq1 h5),(vq1 h4),(vq1 h3),hx,by rw[hlk];first| (simp only[go_sem];done)| (simp only[go_sem];rfl)⟩
   ·rw[List.concat_eq_append]at hG0
    obtain⟨j,hj⟩:∃j,G'.length=j:=⟨_,rfl⟩
    have hGl:G.length=j+1:=by rw[hG0];simp[hj]
    have hsm:s∈G:=by rw[hG0];simp
    have hn:decide ((0:Int)≤(j:Int))=true:=decide_eq_true (by omega)
    have hs:((j+1:Nat):Int) - 1=(j:Int):=by omega
    have hj0:(0:Int)≤(j:Int):=by omega
    have hj1:(j:Int)<((j+1:Nat):Int):=by omega
    have hlk:zcL (G.map SX.key) c=isK s.key c:=by rw[hG0];unfold zcL;simp
    obtain⟨cj,hcj,hCj⟩:=hgv j (by omega)
    have hsj:G[j]'(by omega)=s:=by simp only[hG0,←hj];simp
    rw[hsj]at hCj
    obtain⟨xv,rfl⟩:=Option.isSome_iff_exists.1 (zan hcj)
    obtain⟨yi,hyi⟩:∃yi,adr (some xv) (j*4)=some yi:=⟨_,rfl⟩
    rw[hyi,hCj.1]at hcj
    obtain⟨r1,r2,r3,r4⟩:=hSI.row s hsm
    have hnm:=hSI.nm s hsm
    have hwA:=hE01.trans hEA
    rw[hGl]at h3 ⊢
    refine zaN (fun _=>false) [(0,true),(1,true),(2,true),(3,true),(4,true),(5,true),(6,true),(7,true),(8,true),(9,true),(10,true),(11,true),(12,true),(13,false),(14,true),(15,true),(16,true),(17,true),(18,true),(19,true),(20,true),(21,true),(22,true),(23,true),(24,true),(25,true),(26,true),(27,true),(28,true)] NoS mixed (by kernel_rfl) ?_;intro gd K x hgd hx hxe hK;clear hxe
    have hg2:∀n σ b,zas gd n σ (some (2,b))=zal (ev n σ (.tmp 20)) b:=(fun n σ b=>by rw[zad,show gd 2=some 20 from(by rw[hgd];rfl)];rfl);have hg15:∀n σ b,zas gd n σ (some (15,b))=zal (ev n σ (.tmp 33)) b:=(fun n σ b=>by rw[zad,show gd 15=some 33 from(by rw[hgd];rfl)];rfl)
    obtain⟨c0,c1,c2,c5⟩:=rc (hEA.trans hx)
    have d0:zaf x (some yi)=some s.ow:=by
     have:=zaj (zae hx hcj) (j:=0) rfl
     rwa [zak]at this
    simp (disch:=first|omega|assumption|rfl) only[go_sem,h5,h4,h3,hs,hn,decide_true,hj0,hj1,hi0,hi1,hxi,hyi,d0,c0,zak,↓hg2,↓hg15]
    refine Fn.mono (zbK x _ _ _ _ (r1.ext (hwA.trans hx)) (o1.ext (hwA.trans hx)) hnm.1 hcok.lb (by have:=hnm.2;omega) (by omega)) ?_
    rintro _ x2 ⟨rfl,hx2⟩
    refine⟨.inr hx2,?_⟩
    obtain⟨_,_,c2',_⟩:=rc (hEA.trans (hx.trans hx2))
    have d1:zaf x2 (adr (some yi) 1)=some (vi s.key.2.1):=zaj (zae (hx.trans hx2) hcj) (j:=1) rfl
    by_cases hsame:zaq s.key.1=zaq c.owner
    ·rw[decide_eq_true hsame]
     simp (disch:=first|omega|assumption|rfl) only[go_sem,h5,h4,h3,hj0,hj1,hi0,hi1,hxi,hyi,hxd,d1,c2',zak,↓hg2,↓hg15]
     refine hK _ _ ?_;clear hK hgd;clear K;try clear gd
     refine⟨rfl,rfl,(vq1 hs),(vq1 h5),(vq1 h4),(vq1 h3),hx.trans hx2,?_⟩
     rw[hlk,show isK s.key c=decide (s.key.2.1=c.dat.ty) from by unfold isK;rw[decide_eq_true hsame,Bool.true_and]]
     first| (simp only[go_sem];done)| (simp only[go_sem];rfl)
    ·rw[decide_eq_false hsame]
     simp (disch:=first|omega|assumption|rfl) only[go_sem,↓hg2,↓hg15]
     refine hK _ _ ?_;clear hK hgd;clear K;try clear gd
     refine⟨rfl,rfl,(vq1 hs),(vq1 h5),(vq1 h4),(vq1 h3),hx.trans hx2,?_⟩
     rw[hlk,show isK s.key c=false from by unfold isK;rw[decide_eq_false hsame,Bool.false_and]]
     first| (simp only[go_sem];done)| (simp only[go_sem];rfl)
  clear h5 h4 h3
  rintro _ σ1 _ A1 ⟨rfl,rfl,h6,h5,h4,h3,hA1,h46⟩
  have hSI1:=hSI0.ext hA1
  have hEA1:=hEA.trans hA1
  have sA1:=hA1.size
  repeat refine c_r ?_
  refine zaB (t:=zcL (G.map SX.key) c) ((vq1 h46)) ?_ ?_
  ·intro ht
   rcases List.eq_nil_or_concat G with hG0| ⟨G',s,hG0⟩
   ·rw[hG0]at ht;cases ht
   rw[List.concat_eq_append]at hG0
   obtain⟨j,hj⟩:∃j,G'.length=j:=⟨_,rfl⟩
   have hGl:G.length=j+1:=by rw[hG0];simp[hj]
   have hsm:s∈G:=by rw[hG0];simp
   have hs:((j+1:Nat):Int) - 1=(j:Int):=by omega
   have hj0:(0:Int)≤(j:Int):=by omega
   have hj1:(j:Int)<((j+1:Nat):Int):=by omega
   have hstK:zcw (G.map SX.key) c=G'.map SX.key++ [addK s.key c]:=by
    have hlk:zcL (G.map SX.key) c=isK s.key c:=by rw[hG0];unfold zcL;simp
    rw[hlk]at ht
    rw[hG0];unfold zcw;simp[ht]
   rcases hSI1.own.cases with ⟨hv0,h0⟩| ⟨b,cap,LL,hvb,hbB,hbc,hbm,hSD,hLLl,hLLat⟩
   ·rw[h0]at hGl;simp at hGl
   rw[hov]at hvb
   have hav:av=some ⟨b,0,Option.none⟩:=by injection hvb
   have hcap:cv2=cap:=by injection hvb
   subst hav hcap
   obtain⟨r1,r2,r3,r4⟩:=hSI1.row s hsm
   have hnm:=hSI1.nm s hsm
   have r4':∀a n c,s.dv= .slice (some a) n c→a.block≠b:=fun a n c hv e=>r4 a n c hv (by rw[hov,e];rfl)
   have hgj:=hSD.get (j:=j) (by omega)
   have hCj:=hLLat j (by omega) (by omega)
   have hsj:G[j]'(by omega)=s:=by simp only[hG0,←hj];simp
   rw[hsj]at hCj
   have hLj:LL[j]'(by omega)=s.cells:=hCj.1
   rw[hLj]at hgj
   have f3:zaf A1 (some ⟨b,j*4+3,Option.none⟩)=some s.dv:=by
    have:=zaj hgj (j:=3) rfl
    rwa [za6]at this
   have hSIk:∀y,Keep (zbB A1.heap.size) A1 y→SI w0 w1.heap.size y (.slice (some ⟨b,0,Option.none⟩) (G'.length+1) cv2) (G'++ [s]):=fun y hy=>by
    have:=hSI1.ext (zk9 hy)
    rw[hov,hG0]at this
    simpa using this
   have hLL1:LL.length=(G'++ [s]).length:=hG0▸hLLl
   have hLL2:∀i (h:i<LL.length) (h':i<(G'++ [s]).length),sxC LL[i] (G'++ [s])[i]:=by
    subst hG0;exact hLLat
   have hln:=hGl2 s hsm
   have hln1:([]:List DatL).length+s.key.2.2.length≤100000000000:=by simp;omega
   have hln2:([]++s.key.2.2).length+ [c.dat].length≤100000000000:=by simp;omega
   have hxb:xd.block<A1.heap.size:=by
    have h1:=zeU hcr (by decide) (a:=xi) rfl
    have h2:adr (some xi) 2=some xd:=hxd
    simp only[adr,Option.map_some,Option.some.injEq]at h2
    rw[←h2,zbm];have:=hEA1.size;omega
   rw[hGl,hs]at h6
   rw[hGl]at h3
   repeat refine c_r ?_
   refine zaC (Q:=fun e σ' ds' v'=>e= .normal∧ds'=[]∧σ' 6=vi j∧σ' 5=vi i∧σ' 4= .slice (some xC) L.length cC∧σ' 3= .slice (some ⟨b,0,Option.none⟩) (j+1) cv2∧∃s':SX,s'.key=addK s.key c∧SI w0 w1.heap.size v' (.slice (some ⟨b,0,Option.none⟩) (j+1) cv2) (G'++ [s'])∧Ext w1 v') ?_ ?_
   ·refine zfB (fun i=>i==18) (.run [(0,true),(1,true),(3,true),(4,true),(5,true),(6,true),(7,true),(9,true),(10,true),(11,true),(12,true),(13,true)] (.fork 6 [2,14] (fun i=>if i=2 then(.run [] (.fork 5 [8,14] (fun i=>if i=8 then(.run [(14,false),(15,false),(16,true),(17,true),(18,false)] .fin) else(.run [(8,false),(15,false),(16,true),(17,true),(18,false)] .fin)))) else(.run [(2,false),(8,false),(15,false),(16,true),(17,true),(18,false)] .fin)))) (zbB A1.heap.size) mixed (by kernel_rfl) ?_;intro gd K x hgd hx hxe hK;have hx0:=zfM hxe;clear hxe
    obtain⟨c0,c1,c2,c5⟩:=rc (hEA1.trans hx0)
    have f3x:=zab hx0 f3
    have hxs:=hx.size
    have r2x:=r2.ext hx0
    simp (disch:=first|omega|assumption|rfl) only[go_sem,h3,h4,h5,h6,hj0,hj1,hi0,hi1,f3x,hxi,hxd,c5,Nat.zero_add]
    refine⟨zco hSD.lt,zc0 hxb,?_⟩
--R8BEGIN
    simp only[zbg,zbv];refine⟨?_,?_⟩
    ·simp (disch:=first|omega|assumption|rfl) only[go_sem]
     refine zep (k:=5) (C:=DatAt w0) rfl rfl rfl rfl ?_
     intro w3 hE3 hs3 ho3
     refine⟨.inr hE3.keep,?_⟩
     simp (disch:=first|omega|assumption|rfl) only[go_sem]
     simp only[zbg,zbv];refine⟨?_,?_⟩
     ·simp (disch:=first|omega|assumption|rfl) only[go_sem]
      refine zaI (zaR w0) ho3 (r2x.ext hE3) rfl rfl rfl rfl rfl rfl (by decide) (vr0) (vr0) hln1 (by decide) (by omega) ?_
      intro v4 w4 ho4 hE4' hk4 _
      refine⟨.inr (hk4.mono fun b _ hb=>by have:=(ho3.ge hb).1;show _≤_;omega),?_⟩
      have hs4:=hk4.size
      simp (disch:=first|omega|assumption|rfl) only[go_sem]
      refine zaT (zaR w0) rfl rfl rfl rfl o2 (by decide) ?_
      intro w5 hE5 hs5 ho5
      refine⟨.inr hE5.keep,?_⟩
      simp (disch:=first|omega|assumption|rfl) only[go_sem]
      refine zaI (zaR w0) (ho4.ext hE5) ho5.rows rfl rfl rfl rfl rfl rfl (by decide) (vr0) (vr0) hln2 (by decide) (by omega) ?_
      intro v6 w6 ho6 hE6 hk6 _
      refine⟨.inr (hk6.mono fun b _ hb=>by have:=(ho4.ge hb).1;show _≤_;omega),?_⟩
      simp (disch:=first|omega|assumption|rfl) only[go_sem,h3,h6,hj0,hj1,Nat.zero_add]
      have hkx:Keep (zbB A1.heap.size) A1 w6:=(((hx.trans hE3.keep).trans (hk4.mono fun b _ hb=>by have:=(ho3.ge hb).1;show _≤_;omega)).trans hE5.keep).trans (hk6.mono fun b _ hb=>by have:=(ho4.ge hb).1;show _≤_;omega)
      have hbw:w6.heap[b]? =A1.heap[b]?:=hkx.block b hSD.lt (by unfold zbB;have:=hSD.lt;omega)
      have hSDw:SD 4 w6 b 222 cv2 LL:=by
       obtain⟨⟨cur,RR,q1,q2⟩,q3,q4⟩:=hSD
       exact⟨⟨cur,RR,hbw.trans q1,q2⟩,q3,q4⟩
      obtain⟨ad2,cd2,hdv2,_⟩:=ho6.rows.open
      refine SD.setAt (P:=Tryz.prog) (t:=36) hSDw (j:=j) (i:=3) (by omega) (by decide) (by rw[hdv2];rfl) rfl rfl ?_
      intro v9 hv9 hL9 hk9
      refine⟨.inl rfl,?_⟩
      simp (disch:=first|omega|assumption|rfl) only[go_sem]
      refine hK _ _ ?_;clear hK hgd;clear K;try clear gd
      have hnew:=SI.turn (x':=⟨addK s.key c,s.ow,s.ttl,v6⟩) (hSIk w6 hkx) hk9 hbB (by omega) hbm hL9 (by rw[List.length_set];omega) (ziA hj hLL1 hLL2 ⟨by rw[hLj];rfl,hCj.2.1,by rw[hdv2];rfl⟩) ⟨r1,ho6.rows,(ho6.blk).mono (by omega),fun a n c hv e=>by have:=(ho6.blk a n c hv).1;have:=hSD.lt;omega⟩ hnm
      rw[hj]at hnew
      exact⟨rfl,rfl,(vq1 h6),(vq1 h5),(vq1 h4),(vq1 h3),⟨addK s.key c,s.ow,s.ttl,v6⟩,rfl,hnew,Keep.to_ext hEA1 rfl (fun i hi=>by rcases hi with hi|hi<;>first|omega| (unfold zbB at hi;omega)) ((hkx.mono (fun i _ h=> .inl h)).trans (hk9.mono (T:=fun i=>zbB A1.heap.size i∨i=b) (fun i _ h=> .inr h)))⟩
     ·simp (disch:=first|omega|assumption|rfl) only[go_sem]
      refine zaT (zaR w0) rfl rfl rfl rfl o2 (by decide) ?_
      intro w5 hE5 hs5 ho5
      refine⟨.inr hE5.keep,?_⟩
      simp (disch:=first|omega|assumption|rfl) only[go_sem]
      refine zaI (zaR w0) (ho3.ext hE5) ((r2x.ext hE3).ext hE5) rfl rfl rfl rfl rfl rfl (by decide) (vr0) (vr0) hln1 (by decide) (by omega) ?_
      intro v4 w4 ho4 hE4' hk4 _
      have hs4:=hk4.size
      refine⟨.inr (hk4.mono fun b _ hb=>by have:=(ho3.ge hb).1;show _≤_;omega),?_⟩
      have ho5':=ho5.keep hk4 (fun b hb hb2=>by have:=(ho5.ge hb).1;have:=(ho3.ge hb2).2;omega)
      simp (disch:=first|omega|assumption|rfl) only[go_sem]
      refine zaI (zaR w0) ho4 ho5'.rows rfl rfl rfl rfl rfl rfl (by decide) (vr0) (vr0) hln2 (by decide) (by omega) ?_
      intro v6 w6 ho6 hE6 hk6 _
      refine⟨.inr (hk6.mono fun b _ hb=>by have:=(ho4.ge hb).1;show _≤_;omega),?_⟩
      simp (disch:=first|omega|assumption|rfl) only[go_sem,h3,h6,hj0,hj1,Nat.zero_add]
      have hkx:Keep (zbB A1.heap.size) A1 w6:=(((hx.trans hE3.keep).trans hE5.keep).trans (hk4.mono fun b _ hb=>by have:=(ho3.ge hb).1;show _≤_;omega)).trans (hk6.mono fun b _ hb=>by have:=(ho4.ge hb).1;show _≤_;omega)
      have hbw:w6.heap[b]? =A1.heap[b]?:=hkx.block b hSD.lt (by unfold zbB;have:=hSD.lt;omega)
      have hSDw:SD 4 w6 b 222 cv2 LL:=by
       obtain⟨⟨cur,RR,q1,q2⟩,q3,q4⟩:=hSD
       exact⟨⟨cur,RR,hbw.trans q1,q2⟩,q3,q4⟩
      obtain⟨ad2,cd2,hdv2,_⟩:=ho6.rows.open
      refine SD.setAt (P:=Tryz.prog) (t:=36) hSDw (j:=j) (i:=3) (by omega) (by decide) (by rw[hdv2];rfl) rfl rfl ?_
      intro v9 hv9 hL9 hk9
      refine⟨.inl rfl,?_⟩
      simp (disch:=first|omega|assumption|rfl) only[go_sem]
      refine hK _ _ ?_;clear hK hgd;clear K;try clear gd
      have hnew:=SI.turn (x':=⟨addK s.key c,s.ow,s.ttl,v6⟩) (hSIk w6 hkx) hk9 hbB (by omega) hbm hL9 (by rw[List.length_set];omega) (ziA hj hLL1 hLL2 ⟨by rw[hLj];rfl,hCj.2.1,by rw[hdv2];rfl⟩) ⟨r1,ho6.rows,(ho6.blk).mono (by omega),fun a n c hv e=>by have:=(ho6.blk a n c hv).1;have:=hSD.lt;omega⟩ hnm
      rw[hj]at hnew
      exact⟨rfl,rfl,(vq1 h6),(vq1 h5),(vq1 h4),(vq1 h3),⟨addK s.key c,s.ow,s.ttl,v6⟩,rfl,hnew,Keep.to_ext hEA1 rfl (fun i hi=>by rcases hi with hi|hi<;>first|omega| (unfold zbB at hi;omega)) ((hkx.mono (fun i _ h=> .inl h)).trans (hk9.mono (T:=fun i=>zbB A1.heap.size i∨i=b) (fun i _ h=> .inr h)))⟩
    ·simp (disch:=first|omega|assumption|rfl) only[go_sem]
     refine zaT (zaR w0) rfl rfl rfl rfl o2 (by decide) ?_
     intro w5 hE5 hs5 ho5
     refine⟨.inr hE5.keep,?_⟩
     simp (disch:=first|omega|assumption|rfl) only[go_sem]
     refine zep (k:=5) (C:=DatAt w0) rfl rfl rfl rfl ?_
     intro w3 hE3 hs3 ho3
     refine⟨.inr hE3.keep,?_⟩
     simp (disch:=first|omega|assumption|rfl) only[go_sem]
     refine zaI (zaR w0) ho3 ((r2x.ext hE5).ext hE3) rfl rfl rfl rfl rfl rfl (by decide) (vr0) (vr0) hln1 (by decide) (by omega) ?_
     intro v4 w4 ho4 hE4' hk4 _
     refine⟨.inr (hk4.mono fun b _ hb=>by have:=(ho3.ge hb).1;show _≤_;omega),?_⟩
     have hs4:=hk4.size
     have hE4'':=hE4' _ hE3 (Nat.le_refl _)
     simp (disch:=first|omega|assumption|rfl) only[go_sem]
     refine zaI (zaR w0) ho4 (ho5.ext hE4'').rows rfl rfl rfl rfl rfl rfl (by decide) (vr0) (vr0) hln2 (by decide) (by omega) ?_
     intro v6 w6 ho6 hE6 hk6 _
     refine⟨.inr (hk6.mono fun b _ hb=>by have:=(ho4.ge hb).1;show _≤_;omega),?_⟩
     simp (disch:=first|omega|assumption|rfl) only[go_sem,h3,h6,hj0,hj1,Nat.zero_add]
     have hkx:Keep (zbB A1.heap.size) A1 w6:=(((hx.trans hE5.keep).trans hE3.keep).trans (hk4.mono fun b _ hb=>by have:=(ho3.ge hb).1;show _≤_;omega)).trans (hk6.mono fun b _ hb=>by have:=(ho4.ge hb).1;show _≤_;omega)
     have hbw:w6.heap[b]? =A1.heap[b]?:=hkx.block b hSD.lt (by unfold zbB;have:=hSD.lt;omega)
     have hSDw:SD 4 w6 b 222 cv2 LL:=by
      obtain⟨⟨cur,RR,q1,q2⟩,q3,q4⟩:=hSD
      exact⟨⟨cur,RR,hbw.trans q1,q2⟩,q3,q4⟩
     obtain⟨ad2,cd2,hdv2,_⟩:=ho6.rows.open
     refine SD.setAt (P:=Tryz.prog) (t:=36) hSDw (j:=j) (i:=3) (by omega) (by decide) (by rw[hdv2];rfl) rfl rfl ?_
     intro v9 hv9 hL9 hk9
     refine⟨.inl rfl,?_⟩
     simp (disch:=first|omega|assumption|rfl) only[go_sem]
     refine hK _ _ ?_;clear hK hgd;clear K;try clear gd
     have hnew:=SI.turn (x':=⟨addK s.key c,s.ow,s.ttl,v6⟩) (hSIk w6 hkx) hk9 hbB (by omega) hbm hL9 (by rw[List.length_set];omega) (ziA hj hLL1 hLL2 ⟨by rw[hLj];rfl,hCj.2.1,by rw[hdv2];rfl⟩) ⟨r1,ho6.rows,(ho6.blk).mono (by omega),fun a n c hv e=>by have:=(ho6.blk a n c hv).1;have:=hSD.lt;omega⟩ hnm
     rw[hj]at hnew
     exact⟨rfl,rfl,(vq1 h6),(vq1 h5),(vq1 h4),(vq1 h3),⟨addK s.key c,s.ow,s.ttl,v6⟩,rfl,hnew,Keep.to_ext hEA1 rfl (fun i hi=>by rcases hi with hi|hi<;>first|omega| (unfold zbB at hi;omega)) ((hkx.mono (fun i _ h=> .inl h)).trans (hk9.mono (T:=fun i=>zbB A1.heap.size i∨i=b) (fun i _ h=> .inr h)))⟩
--R8END
   ·clear h6 h5 h4 h3 hgj f3
    rintro _ σ2 _ A2 ⟨rfl,rfl,h6,h5,h4,h3,s',hs',hSI2,hEA2⟩
    have hfin:∀s2:SX,s2.key=addK s.key c→(G'++ [s2]).map SX.key=zbr (L.take (i+1))∧(G'++ [s2]).length≤i+1∧∀x∈G'++ [s2],x.key.2.2.length≤i+1:=fun s2 h2=>by
     refine⟨?_,by simp;omega,fun x hx=>?_⟩
     ·rw[hstep,←hG,hstK];simp[h2]
     ·rcases List.mem_append.1 hx with hx|hx
      ·have:=hGl2 x (by rw[hG0];exact List.mem_append_left _ hx);omega
      ·rw[List.mem_singleton.1 hx,h2]
       unfold addK;simp;omega
    have hG2l:(G'++ [s']).length=j+1:=by simp[hj]
    rcases hSI2.own.cases with ⟨hv0,h0⟩| ⟨b2,cap2,LL2,hvb2,_,_,_,hSD2,hLL2l,hLL2at⟩
    ·simp at h0
    obtain⟨rfl,rfl⟩:b2=b∧cap2=cv2:=by
     injection hvb2 with e1 e2 e3
     injection e1 with e1
     injection e1 with e1
     exact⟨e1.symm,e3.symm⟩
    have hC2:=hLL2at j (by omega) (by omega)
    have hs2j:(G'++ [s'])[j]'(by omega)=s':=by simp only[←hj];simp
    rw[hs2j]at hC2
    have hLj2:LL2[j]'(by omega)=s'.cells:=hC2.1
    have hgj2:=hSD2.get (j:=j) (by omega)
    rw[hLj2]at hgj2
    have f2:zaf A2 (some ⟨b2,j*4+2,Option.none⟩)=some (v32 s'.ttl):=by
     have:=zaj hgj2 (j:=2) rfl
     rwa [za6]at this
    repeat refine c_r ?_
    refine zaC (Q:=fun e σ' ds' v'=>e= .normal∧ds'=[]∧σ' 6=vi j∧σ' 5=vi i∧σ' 4= .slice (some xC) L.length cC∧σ' 3= .slice (some ⟨b2,0,Option.none⟩) (j+1) cap2∧Ext A2 v'∧σ' 75= .bool (decide (c.ttl<s'.ttl))) ?_ ?_
    ·refine zaN (fun _=>false) [(0,true),(1,true),(2,true),(3,true),(4,true),(5,true),(6,true),(7,true),(8,true),(9,true),(10,true)] NoS mixed (by kernel_rfl) ?_;intro gd K x hgd hx hxe hK;clear hxe
     obtain⟨c0,c1,c2,c5⟩:=rc (hEA2.trans hx)
     have f2x:=zab hx f2
     simp (disch:=first|omega|assumption|rfl) only[go_sem,h3,h4,h5,h6,hj0,hj1,hi0,hi1,hxi,c1,f2x,Nat.zero_add]
     refine hK _ _ ?_;clear hK hgd;clear K;try clear gd
     exact⟨rfl,rfl,(vq1 h6),(vq1 h5),(vq1 h4),(vq1 h3),hx,vr0⟩
    clear h6 h5 h4 h3
    rintro _ σ3 _ A3 ⟨rfl,rfl,h6,h5,h4,h3,hE3,h75⟩
    have hSI3:=hSI2.ext hE3
    have hEA3:=hEA2.trans hE3
    refine zaB (t:=decide (c.ttl<s'.ttl)) ((vq1 h75)) ?_ ?_
    ·intro ht2
     repeat refine c_r ?_
     refine rq ?_;intro gd K hgd hK
     obtain⟨c0,c1,c2,c5⟩:=rc hEA3
     try simp (disch:=first|omega|assumption|rfl) only[go_sem,h3,h4,h5,h6,hj0,hj1,hi0,hi1,hxi,c1,Nat.zero_add]
     refine SD.setAt (P:=Tryz.prog) (t:=108) (hSD2.ext hE3) (j:=j) (i:=2) (by omega) (by decide) rfl rfl rfl ?_
     intro v4 hv4 hL4 hk4
     try simp only[go_sem]
     refine hK _ _ ?_;clear hK hgd;clear K;try clear gd
     obtain⟨q1,q2,q3,q4⟩:=hSI3.row s' (by simp)
     have hSIw:SI w0 w1.heap.size A3 (.slice (some ⟨b2,0,Option.none⟩) (G'.length+1) cap2) (G'++ [s']):=by rw[hj];exact hSI3
     have hnew:=SI.turn (x':=⟨s'.key,s'.ow,c.ttl,s'.dv⟩) hSIw hk4 hbB (by omega) hbm hL4 (by rw[List.length_set];omega) (ziA hj hLL2l hLL2at ⟨by rw[hLj2];rfl,hC2.2.1,hC2.2.2⟩) ⟨q1,q2,q3,fun a n c hv e=>q4 a n c hv (by rw[e];rfl)⟩ (hSI3.nm s' (by simp))
     rw[hj]at hnew
     have hE5:Ext w1 v4:=Keep.to_ext hEA3 rfl (fun i hi=>by omega) hk4
     repeat refine c_r ?_
     refine rg2 h5 hi1' ?_
     repeat refine c_r ?_
     obtain⟨n1,n2,n3⟩:=hfin ⟨s'.key,s'.ow,c.ttl,s'.dv⟩ hs'
     exact⟨m - 1,by omega,rfl,i+1,_,_,by omega,vq0,(vq1 h4),(vq1 h3),n1,n2,n3,hnew,hE5⟩
    ·intro ht2
     repeat refine c_r ?_
     refine rg2 h5 hi1' ?_
     repeat refine c_r ?_
     obtain⟨n1,n2,n3⟩:=hfin s' hs'
     exact⟨m - 1,by omega,rfl,i+1,_,_,by omega,vq0,(vq1 h4),(vq1 h3),n1,n2,n3,hSI3,hEA3⟩
  ·intro ht
   have hstK:zcw (G.map SX.key) c=G.map SX.key++ [newK c]:=by
    unfold zcw
    unfold zcL at ht
    split at ht
    ·simp[ht]
    ·rename_i hk
     rw[List.getLast?_eq_none_iff]at hk
     rw[hk];rfl
   repeat refine c_r ?_
   refine zaC (Q:=fun e σ' ds' v'=>e= .normal∧ds'=[]∧σ' 5=vi i∧σ' 4= .slice (some xC) L.length cC∧∃(ov':Value) (s':SX),σ' 3=ov'∧s'.key=newK c∧SI w0 w1.heap.size v' ov' (G++ [s'])∧Ext w1 v') ?_ ?_
   ·refine zaN (fun _=>false) [(0,true),(1,true),(2,true),(3,true),(4,true),(5,true),(6,true),(7,true),(8,true),(9,true),(10,true),(11,true),(12,true),(13,true),(14,true),(15,true),(16,true),(17,true),(18,true),(19,true),(20,true),(21,true),(22,false),(23,true),(24,false),(25,false),(26,true)] (zbB w1.heap.size) mixed (by kernel_rfl) ?_;intro gd K x hgd hx hxe hK;have hx0:=zfM hxe;clear hxe
    obtain⟨c0,c1,c2,c5⟩:=rc (hEA1.trans hx0)
    have hxs:=hx.size
    obtain⟨oa,oc,how,_⟩:=id o1
    obtain⟨on,hon⟩:∃on,(c.owner.map vs).length=on:=⟨_,rfl⟩
    rw[hon]at how
    have hone:one ow=true:=by rw[how];rfl
    have hxib:xi.block<w1.heap.size:=zeU hcr (by decide) rfl
    have hxdb:xd.block<w1.heap.size:=by
     have h2:adr (some xi) 2=some xd:=hxd
     simp only[adr,Option.map_some,Option.some.injEq]at h2
     rw[←h2,zbm];exact hxib
    simp (disch:=first|omega|assumption|rfl) only[go_sem,h3,h4,h5,hi0,hi1,hxi,hxd,c0,c1,c2,c5,zak]
    refine⟨zc0 hxib,zc0 hxdb,zkA hxib,zc0 hxdb,?_⟩
    refine zaT (zaR w0) rfl rfl rfl rfl o2 (by decide) ?_
    intro w5 hE5 hs5 ho5
    refine⟨.inr hE5.keep,?_⟩
    simp (disch:=first|omega|assumption|rfl) only[go_sem]
    refine⟨by kernel_rfl,?_⟩
    rw[how,show bdV Tryz.prog 222 [(0,.slice oa on oc),(1,vi c.dat.ty),(2,v32 c.ttl),(3,.slice (some ⟨x.heap.size,0,Option.none⟩) 1 1)]=some (.agg #[.slice oa on oc,vi c.dat.ty,v32 c.ttl,.slice (some ⟨x.heap.size,0,Option.none⟩) 1 1]) from by kernel_rfl]
    simp (disch:=first|omega|assumption|rfl) only[go_sem]
    rw[←how]
    refine zaT (l:=[ow,vi c.dat.ty,v32 c.ttl,.slice (some ⟨x.heap.size,0,Option.none⟩) 1 1]) (a:=(⟨newK c,ow,c.ttl,.slice (some ⟨x.heap.size,0,Option.none⟩) 1 1⟩:SX)) sx_shape rfl rfl rfl rfl ⟨rfl,hone,rfl⟩ (by decide) ?_
    intro w6 hE6 hs6 ho6
    refine⟨.inr hE6.keep,?_⟩
    simp (disch:=first|omega|assumption|rfl) only[go_sem,h3]
    have hx6:=(hx0.trans hE5).trans hE6
    have hx6s:=hx6.size
    refine zaI sx_shape (by have:=(hSI1.ext hx6).own;rw[hov]at this;exact this) ho6.rows rfl rfl rfl rfl rfl rfl (by decide) (vr0) (vr0) (by simp;omega) (by decide) (by omega) ?_
    intro v7 w7 ho7 hE7 hk7 hb7
    refine⟨.inr (hk7.mono fun b _ hb=>by have:=(hSI1.own.ge (b:=b) (by rw[hov];exact hb)).1;show _≤_;omega),?_⟩
    simp (disch:=first|omega|assumption|rfl) only[go_sem]
    refine hK _ _ ?_;clear hK hgd;clear K;try clear gd
    rw[←hov]at hk7 hb7
    have hnew:=(hSI1.ext hx6).app (s:=⟨newK c,ow,c.ttl,.slice (some ⟨x.heap.size,0,Option.none⟩) 1 1⟩) ⟨o1,(ho5.ext hE6).rows,(((ho5.ext hE6).blk).mono (by omega)),fun a n c2 hv e=>by
     have:=((ho5.ext hE6).blk a n c2 hv).1
     have:=(hSI1.own.ge e).2
     omega⟩ ⟨hcok.lb,Nat.le_trans hcl (by decide)⟩ ho7 hk7 hb7
    exact⟨rfl,rfl,(vq1 h5),(vq1 h4),v7,_,vr0,rfl,hnew,hE7 _ (hEA1.trans hx6) (Nat.le_refl _)⟩
   clear h5 h4 h3
   rintro _ σ2 _ A2 ⟨rfl,rfl,h5,h4,ov2,s',h3,hs',hSI2,hEA2⟩
   repeat refine c_r ?_
   refine rg2 h5 hi1' ?_
   repeat refine c_r ?_
   refine⟨m - 1,by omega,rfl,i+1,ov2,G++ [s'],by omega,vq0,(vq1 h4),(vq1 h3),?_,by simp;omega,fun x hx=>?_,hSI2,hEA2⟩
   ·rw[hstep,←hG,hstK];simp[hs']
   ·rcases List.mem_append.1 hx with hx|hx
    ·have:=hGl2 x hx;omega
    ·rw[List.mem_singleton.1 hx,hs']
     unfold newK;simp
 ·intro hge
  simp only[decide_eq_false_iff_not]at hge
  have hi:i=L.length:=by omega
  rw[hi,List.take_length]at hG
  repeat refine c_r ?_
  refine rg1 h3 ?_
  repeat refine c_r ?_
  refine rt0 Tryz.ntmps184 ?_
  exact⟨hE1.trans hEA,G,hG,hSI.mono s1⟩
def clsK(o:Nm)(t:Int)(k:Key):Bool:=decide (k.2.1=t) && decide (zaq k.1=zaq o)
def zdv(G:List Key)(o:Nm)(t:Int):List DatL:=((G.find? (clsK o t)).map (fun k=>k.2.2)).getD []
theorem zll{k:Key}{c:RecL}(h:isK k c=true)(o:Nm)(t:Int):clsK o t k=isL o t c:=by
 unfold isK at h
 simp only[Bool.and_eq_true,decide_eq_true_eq]at h
 unfold clsK isL
 rw[h.1,h.2]
 rw[Bool.eq_iff_iff]
 simp only[Bool.and_eq_true,decide_eq_true_eq]
 exact⟨fun h=>⟨h.1.symm,h.2.symm⟩,fun h=>⟨h.1.symm,h.2.symm⟩⟩
theorem cls_two{k:Key}{c:RecL}{o:Nm}{t:Int}(h:clsK o t k=true)(hc:isL o t c=true):isK k c=true:=by
 unfold clsK at h
 unfold isL at hc
 simp only[Bool.and_eq_true,decide_eq_true_eq]at h hc
 unfold isK
 simp only[Bool.and_eq_true,decide_eq_true_eq]
 exact⟨h.2.trans hc.2,h.1.trans hc.1⟩
def zhG(a b:Key):Prop:=¬(zaq a.1=zaq b.1∧a.2.1=b.2.1)
theorem zj2{G:List Key}{c:RecL}(hG:G.Pairwise zhG)(hnew:zcL G c=false→∀k∈G,isK k c=false)(o:Nm)(t:Int):
  zdv (zcw G c) o t=zdv G o t++(if isL o t c then [c.dat] else []):=by
 rcases List.eq_nil_or_concat G with rfl| ⟨G',k,rfl⟩
 ·show zdv [newK c] o t=_
  unfold zdv
  have e:clsK o t (newK c)=isL o t c:=zll (by unfold isK newK;simp) o t
  by_cases h:isL o t c=true
  ·rw[if_pos h]
   rw[List.find?_cons,e,h];rfl
  ·rw[if_neg h]
   rw[List.find?_cons,e,Bool.eq_false_iff.2 h];rfl
 rw[List.concat_eq_append]at hG hnew ⊢
 have hlk:zcL (G'++ [k]) c=isK k c:=by unfold zcL;simp
 rw[hlk]at hnew
 have hst:zcw (G'++ [k]) c=if isK k c then G'++ [addK k c] else G'++ [k]++ [newK c]:=by unfold zcw;simp
 rw[hst]
 by_cases hk:isK k c=true
 ·rw[if_pos hk]
  have e1:=zll hk o t
  have e2:clsK o t (addK k c)=isL o t c:=by rw[←e1];rfl
  unfold zdv
  rw[List.find?_append,List.find?_append]
  cases hf:G'.find? (clsK o t) with
  |some k0=>
   have hno:¬isL o t c=true:=fun hc=>by
    have h0:clsK o t k0=true:=List.find?_some hf
    have:=(List.pairwise_append.1 hG).2.2 k0 (List.mem_of_find?_eq_some hf) k (List.mem_singleton.2 rfl)
    rw[←e1]at hc
    unfold clsK at h0 hc
    simp only[Bool.and_eq_true,decide_eq_true_eq]at h0 hc
    exact this ⟨h0.2.trans hc.2.symm,h0.1.trans hc.1.symm⟩
   rw[if_neg hno];simp
  |none=>
   by_cases hc:isL o t c=true
   ·rw[if_pos hc]
    rw[List.find?_cons,List.find?_cons,e1,e2,hc]
    simp[addK]
   ·rw[if_neg hc]
    rw[List.find?_cons,List.find?_cons,e1,e2,Bool.eq_false_iff.2 hc]
    simp
 ·rw[if_neg hk]
  have hn:=hnew (by simpa using hk)
  have e2:clsK o t (newK c)=isL o t c:=zll (by unfold isK newK;simp) o t
  unfold zdv
  rw[List.find?_append]
  cases hf:(G'++ [k]).find? (clsK o t) with
  |some k0=>
   have hno:¬isL o t c=true:=fun hc=>by
    have h0:clsK o t k0=true:=List.find?_some hf
    have h1:=hn k0 (List.mem_of_find?_eq_some hf)
    rw[cls_two h0 hc]at h1
    cases h1
   rw[if_neg hno];simp
  |none=>
   by_cases hc:isL o t c=true
   ·rw[if_pos hc]
    rw[List.find?_cons,e2,hc]
    simp[newK]
   ·rw[if_neg hc]
    rw[List.find?_cons,e2,Bool.eq_false_iff.2 hc]
    simp
theorem zji{G:List Key}{c:RecL}(hG:G.Pairwise zhG)(hnew:zcL G c=false→∀k∈G,isK k c=false):(zcw G c).Pairwise zhG:=by
 rcases List.eq_nil_or_concat G with rfl| ⟨G',k,rfl⟩
 ·exact List.pairwise_singleton _ _
 rw[List.concat_eq_append]at hG hnew ⊢
 have hlk:zcL (G'++ [k]) c=isK k c:=by unfold zcL;simp
 rw[hlk]at hnew
 have hst:zcw (G'++ [k]) c=if isK k c then G'++ [addK k c] else G'++ [k]++ [newK c]:=by unfold zcw;simp
 rw[hst]
 by_cases hk:isK k c=true
 ·rw[if_pos hk]
  obtain⟨h1,_,h3⟩:=List.pairwise_append.1 hG
  refine List.pairwise_append.2 ⟨h1,List.pairwise_singleton _ _,fun a ha b hb=>?_⟩
  rw[List.mem_singleton.1 hb]
  exact h3 a ha k (List.mem_singleton.2 rfl)
 ·rw[if_neg hk]
  have hn:=hnew (by simpa using hk)
  refine List.pairwise_append.2 ⟨hG,List.pairwise_singleton _ _,fun a ha b hb=>?_⟩
  rw[List.mem_singleton.1 hb]
  rintro⟨e1,e2⟩
  have:=hn a ha
  unfold isK at this
  rw[show zaq a.1=zaq c.owner from e1,show a.2.1=c.dat.ty from e2]at this
  simp at this
theorem between{x y c:RecL}(h1:zaD x y<0)(h2:zaD y c<0)(ho:zaq x.owner=zaq c.owner)(ht:x.dat.ty=c.dat.ty):zaq y.owner=zaq c.owner∧y.dat.ty=c.dat.ty:=by
 have e:zb7 y.owner c.owner= - zb7 x.owner y.owner:=by unfold zb7;rw[ho,←zi2]
 have e2:cmpI y.dat.ty c.dat.ty= - cmpI x.dat.ty y.dat.ty:=by rw[ht];unfold cmpI;(repeat' split)<;>omega
 simp only[zaD,orI]at h1 h2
 by_cases h0:zb7 x.owner y.owner=0
 ·have h0':zb7 y.owner c.owner=0:=by omega
  rw[if_pos h0]at h1
  rw[if_pos h0']at h2
  have hf:zaq y.owner=zaq c.owner:=zhx h0'
  by_cases hi:cmpI x.dat.ty y.dat.ty=0
  ·have hi':cmpI y.dat.ty c.dat.ty=0:=by omega
   exact⟨hf,zbt.1 hi'⟩
  ·rw[if_neg hi]at h1
   rw[if_neg (by omega)]at h2
   omega
 ·rw[if_neg h0]at h1
  rw[if_neg (by omega)]at h2
  omega
theorem ziC{α:Type}{P:List α→Prop}(h0:P [])(h1:∀l c,P l→P (l++ [c]))(l:List α):P l:=by
 have:∀l:List α,P l.reverse:=fun l=>by
  induction l with
  |nil=>exact h0
  |cons a l ih=>rw[List.reverse_cons];exact h1 _ _ ih
 have h:=this l.reverse
 rwa [List.reverse_reverse]at h
theorem zgw(c:RecL):isK (newK c) c=true:=by unfold isK newK;simp
theorem zfV(l:List RecL)(c:RecL):zbr (l++ [c])=zcw (zbr l) c:=by
 unfold zbr
 rw[List.foldl_append];rfl
theorem sets_inv(l:List RecL):zdI l→(zbr l).Pairwise zhG∧(∀k∈zbr l,∃r∈l,isK k r=true)∧(∀y,l.getLast? =some y→zcL (zbr l) y=true)∧∀o t,zdv (zbr l) o t=(l.filter (isL o t)).map RecL.dat:=by
 refine ziC (P:=fun l=>zdI l→(zbr l).Pairwise zhG∧(∀k∈zbr l,∃r∈l,isK k r=true)∧(∀y,l.getLast? =some y→zcL (zbr l) y=true)∧∀o t,zdv (zbr l) o t=(l.filter (isL o t)).map RecL.dat) ?_ ?_ l
 ·intro _
  exact⟨List.Pairwise.nil,fun k h=>absurd h (by unfold zbr;simp),fun y h=>(by cases h),fun o t=>rfl⟩
 intro l c ih hs
 obtain⟨s1,_,s3⟩:=List.pairwise_append.1 hs
 obtain⟨i1,i2,i3,i4⟩:=ih s1
 have hnew:zcL (zbr l) c=false→∀k∈zbr l,isK k c=false:=by
  intro hl k hk
  rw[←Bool.not_eq_true]
  intro hkc
  obtain⟨r,hr,hkr⟩:=i2 k hk
  rcases List.eq_nil_or_concat l with rfl| ⟨l',y,rfl⟩
  ·cases hr
  rw[List.concat_eq_append]at*
  have hy:=i3 y (by simp)
  unfold zcL at hl hy
  cases hg:(zbr (l'++ [y])).getLast? with
  |none=>rw[hg]at hy;cases hy
  |some k2=>
   rw[hg]at hl hy
   have hl:isK k2 c=false:=hl
   have hy:isK k2 y=true:=hy
   have hyc:zaq y.owner=zaq c.owner∧y.dat.ty=c.dat.ty:=by
    unfold isK at hkc hkr
    simp only[Bool.and_eq_true,decide_eq_true_eq]at hkc hkr
    have a1:zaq r.owner=zaq c.owner:=hkr.1.symm.trans hkc.1
    have a2:r.dat.ty=c.dat.ty:=hkr.2.symm.trans hkc.2
    rcases List.mem_append.1 hr with hr|hr
    ·exact between ((List.pairwise_append.1 s1).2.2 r hr y (List.mem_singleton.2 rfl)) (s3 y (by simp) c (List.mem_singleton.2 rfl)) a1 a2
    ·rw[List.mem_singleton.1 hr]at a1 a2
     exact⟨a1,a2⟩
   unfold isK at hl hy
   rw[hyc.1,hyc.2]at hy
   rw[hy]at hl
   cases hl
 rw[zfV]
 refine⟨zji i1 hnew,?_,?_,fun o t=>?_⟩
 ·intro k hk
  rcases List.eq_nil_or_concat (zbr l) with h0| ⟨G',k2,h0⟩
  ·rw[h0]at hk
   rw[List.mem_singleton.1 hk]
   exact⟨c,by simp,zgw c⟩
  rw[List.concat_eq_append]at h0
  have hst:zcw (G'++ [k2]) c=if isK k2 c then G'++ [addK k2 c] else G'++ [k2]++ [newK c]:=by unfold zcw;simp
  rw[h0,hst]at hk
  split at hk
  ·rename_i h
   rcases List.mem_append.1 hk with hk|hk
   ·obtain⟨r,hr,h1⟩:=i2 k (by rw[h0];exact List.mem_append_left _ hk)
    exact⟨r,List.mem_append_left _ hr,h1⟩
   ·rw[List.mem_singleton.1 hk]
    exact⟨c,by simp,h⟩
  ·rcases List.mem_append.1 hk with hk|hk
   ·obtain⟨r,hr,h1⟩:=i2 k (by rw[h0];exact hk)
    exact⟨r,List.mem_append_left _ hr,h1⟩
   ·rw[List.mem_singleton.1 hk]
    exact⟨c,by simp,zgw c⟩
 ·intro y hy
  rw[List.getLast?_concat]at hy
  cases hy
  rcases List.eq_nil_or_concat (zbr l) with h0| ⟨G',k2,h0⟩
  ·rw[h0];exact zgw c
  rw[List.concat_eq_append]at h0
  have hst:zcw (G'++ [k2]) c=if isK k2 c then G'++ [addK k2 c] else G'++ [k2]++ [newK c]:=by unfold zcw;simp
  rw[h0,hst]
  unfold zcL
  split
  ·rename_i k3 h3
   split at h3
   ·rename_i h;simp at h3;rw[←h3];exact h
   ·simp at h3;rw[←h3];exact zgw c
  ·rename_i h3
   split at h3<;>simp at h3
 ·rw[zj2 i1 hnew,i4,List.filter_append,List.map_append]
  congr 1
  by_cases h:isL o t c=true
  ·rw[if_pos h];simp[h]
  ·rw[if_neg h];simp[h]
theorem zj7{R:List RecL}(h:zdI R)(o:Nm)(t:Int):zdv (zbr (zaP R)) o t=datC R o t:=by
 rw[zhC h,(sets_inv R h).2.2.2 o t]
 unfold datC
 rw[zei h]
theorem dataK_at{G:List Key}{o:Nm}{t:Int}{i:Nat}(hi:i<G.length)(hlow:∀j (h:j<G.length),j<i→clsK o t G[j]=false)(h:clsK o t G[i]=true):zdv G o t=G[i].2.2:=by
 have h1:G.find? (clsK o t)=some G[i]:=by
  rw[List.find?_eq_some_iff_append]
  refine⟨h,G.take i,G.drop (i+1),by simp,fun a ha=>?_⟩
  obtain⟨j,hj,rfl⟩:=List.getElem_of_mem ha
  rw[List.getElem_take]
  simp at hj
  rw[hlow j (by omega) (by omega)];rfl
 unfold zdv
 rw[h1];rfl
theorem zjC{G:List Key}{o:Nm}{t:Int}(hlow:∀j (h:j<G.length),clsK o t G[j]=false):zdv G o t=[]:=by
 have h1:G.find? (clsK o t)=Option.none:=by
  rw[List.find?_eq_none]
  intro a ha
  obtain⟨j,hj,rfl⟩:=List.getElem_of_mem ha
  rw[hlow j hj];exact Bool.false_ne_true
 unfold zdv
 rw[h1];rfl
theorem zj3(G:List Key)(c:RecL):(zcw G c).length≤G.length+1:=by
 rcases List.eq_nil_or_concat G with rfl| ⟨G',k,rfl⟩
 ·exact Nat.le_refl _
 rw[List.concat_eq_append]
 have hst:zcw (G'++ [k]) c=if isK k c then G'++ [addK k c] else G'++ [k]++ [newK c]:=by unfold zcw;simp
 rw[hst]
 split<;>simp
theorem zj8(l:List RecL):(zbr l).length≤l.length:=by
 refine ziC (P:=fun l=>(zbr l).length≤l.length) (Nat.le_refl _) (fun l c ih=>?_) l
 rw[zfV]
 have:=zj3 (zbr l) c
 simp;omega
set_option maxHeartbeats 4000000 in
theorem ROf_ok(w0 w:World)(hE0:Ext w0 w){v nv:Value}{R:List RecL}{n:Nm}{t:Int}(hR:Rows 7 (RecAt w0) w v R)(hn:Row w nv (n.map vs))(hln:LB n)(hnl:n.length≤1000000000000000)(hok:∀r∈R,zbn r)(hlen:R.length≤1000000000):
  Fn Tryz.prog 139 #[v,nv,vi t] w (fun u w'=>Ext w w'∧∃ow ty tl dv ok,u= .tuple #[.agg #[ow,vi ty,v32 tl,dv],.bool ok]∧one ow=true∧Rows 5 (DatAt w0) w' dv (zdv (zbr (zaP R)) n t)∧BlkB w.heap.size w' dv):=by
 refine enter Tryz.func139 Tryz.ntmps139 rfl rfl ?_
 repeat refine c_r ?_
 refine rg0 ?_
 repeat refine c_r ?_
 refine zaA ?_
 intro w1 hE1 hs1 hA
 refine rq ?_;intro gd K hgd hK
 try simp only[go_sem]
 refine Fn.mono (RSets_ok w0 w1 (hE0.trans hE1) (hR.ext hE1) hok hlen) ?_
 rintro sv w2 ⟨hE2,G,hGk,hSI⟩
 try simp only[go_sem]
 refine hK _ _ ?_;clear hK hgd;clear K;try clear gd
 have hE12:=hE1.trans hE2
 have hG1:∀i (h:i<G.length) (h':i<(zbr (zaP R)).length),(zbr (zaP R))[i]=G[i].key:=fun i h h'=>by
  have:(G.map SX.key)[i]'(by simpa using h)=(zbr (zaP R))[i]:=by simp only[hGk]
  rw[←this];simp
 have hGl:(zbr (zaP R)).length=G.length:=by rw[←hGk];simp
 have hGb:G.length≤1000000000:=by
  have h1:=zj8 (zaP R)
  have h2:=zcb R
  omega
 obtain⟨aG,cG,rfl,hcG,hgG⟩:=hSI.own.rows.open
 repeat refine c_r ?_
 refine rg0 ?_
 repeat refine c_r ?_
 refine zap (fun m σ ds A=>ds=[]∧∃(i:Nat),i+m=G.length∧σ 9=vi i∧σ 8= .slice aG G.length cG∧σ 1=nv∧σ 2=vi t∧σ 6= .pointer (some ⟨w.heap.size,0,Option.none⟩)∧Ext w2 A∧∀j (h:j<G.length),j<i→clsK n t G[j].key=false) G.length ?_ ?_
 ·exact⟨rfl,0,by omega,vr0,vq0,vq0,vq0,vq0,Keep.refl _ _,fun j h hj=>absurd hj (by omega)⟩
 rintro m σ ds A ⟨rfl,i,him,h9,h8,h1,h2,h6,hEA,hlow⟩
 repeat refine c_r ?_
 refine rg2 h9 h8 ?_
 repeat refine c_r ?_
 refine wc0 ?_ ?_
 ·intro hlt
  simp only[decide_eq_true_eq]at hlt
  have hi:i<G.length:=by omega
  have hi0:(0:Int)≤(i:Int):=by omega
  have hi1:(i:Int)<(G.length:Int):=by omega
  have hi1':(i:Int)+1=((i+1:Nat):Int):=by push_cast;rfl
  obtain⟨cr,hcr,hRr⟩:=hgG i hi
  obtain⟨s,hs⟩:∃s,G[i]=s:=⟨_,rfl⟩
  have hsm:s∈G:=hs▸List.getElem_mem hi
  rw[hs]at hRr
  rw[hRr.1]at hcr
  obtain⟨r1,r2,r3,r4⟩:=hSI.row s hsm
  obtain⟨n1,n2⟩:=hSI.nm s hsm
  obtain⟨xG,rfl⟩:=Option.isSome_iff_exists.1 (zan hcr)
  obtain⟨xi,hxi⟩:∃xi,adr (some xG) (i*4)=some xi:=⟨_,rfl⟩
  rw[hxi]at hcr
  have rc:∀{x},Ext w2 x→zat x (some xi) 4=some s.cells∧zaf x (some xi)=some s.ow∧zaf x (adr (some xi) 1)=some (vi s.key.2.1):=fun {x} hx=>by
   have hcx:=zae hx hcr
   have e0:=zaj hcx (j:=0) rfl
   rw[zak]at e0
   exact⟨hcx,e0,zaj hcx (j:=1) rfl⟩
  obtain⟨c4,c0,c1⟩:=rc hEA
  have hwA:=hE0.trans (hE12.trans hEA)
  repeat refine c_r ?_
  refine zaC (Q:=fun e σ' ds' v'=>e= .normal∧ds'=[]∧σ' 9=vi i∧σ' 8= .slice (some xG) G.length cG∧σ' 1=nv∧σ' 2=vi t∧σ' 6= .pointer (some ⟨w.heap.size,0,Option.none⟩)∧Ext A v'∧σ' 33= .bool (clsK n t s.key)) ?_ ?_
  ·by_cases hty:s.key.2.1=t
   ·refine rq ?_;intro gd K hgd hK
    have hg7:∀n σ b,zas gd n σ (some (7,b))=zal (ev n σ (.tmp 25)) b:=(fun n σ b=>by rw[zad,show gd 7=some 25 from(by rw[hgd];rfl)];rfl)
    try simp (disch:=first|omega|assumption|rfl) only[go_sem,h9,h8,h1,h2,hi0,hi1,hxi,c0,c1,zak,decide_eq_true hty,↓hg7]
    refine Fn.mono (zbK A _ _ _ _ (r1.ext hwA) (hn.ext (hE12.trans hEA)) n1 hln (by omega) (by omega)) ?_
    rintro _ x2 ⟨rfl,hx2⟩
    try simp only[go_sem]
    refine hK _ _ ?_;clear hK hgd;clear K;try clear gd
    refine⟨rfl,rfl,(vq1 h9),(vq1 h8),(vq1 h1),(vq1 h2),(vq1 h6),hx2,?_⟩
    unfold clsK
    rw[decide_eq_true hty,Bool.true_and]
    first| (simp only[go_sem];done)| (simp only[go_sem];rfl)
   ·refine rq ?_;intro gd K hgd hK
    have hg7:∀n σ b,zas gd n σ (some (7,b))=zal (ev n σ (.tmp 25)) b:=(fun n σ b=>by rw[zad,show gd 7=some 25 from(by rw[hgd];rfl)];rfl)
    try simp (disch:=first|omega|assumption|rfl) only[go_sem,h9,h8,h1,h2,hi0,hi1,hxi,c0,c1,zak,decide_eq_false hty,↓hg7]
    refine hK _ _ ?_;clear hK hgd;clear K;try clear gd
    refine⟨rfl,rfl,(vq1 h9),(vq1 h8),(vq1 h1),(vq1 h2),(vq1 h6),Keep.refl _ _,?_⟩
    unfold clsK
    rw[decide_eq_false hty,Bool.false_and]
    first| (simp only[go_sem];done)| (simp only[go_sem];rfl)
  clear h9 h8 h1 h2 h6 c4 c0 c1
  rintro _ σ1 _ A1 ⟨rfl,rfl,h9,h8,h1,h2,h6,hA1,h33⟩
  have hEA1:=hEA.trans hA1
  repeat refine c_r ?_
  refine zaB (t:=clsK n t s.key) ((vq1 h33)) ?_ ?_
  ·intro ht
   obtain⟨c4,c0,c1⟩:=rc hEA1
   repeat refine c_r ?_
   refine rq ?_;intro gd K hgd hK
   try simp (disch:=first|omega|assumption|rfl) only[go_sem,h9,h8,h6,hi0,hi1,hxi,c4]
   have hB:=Ext.at ((hE2.trans hEA1)) hA
   obtain⟨_,_,hsv,_⟩:=r2.open
   refine zaE (P:=Tryz.prog) (t:=222) (l:=s.cells) hB rfl (fun v h=>sx_shape.ones hRr v (by rw[hRr.1];exact h)) rfl rfl ?_
   intro w4 hs5 hB5 hk5
   try simp only[go_sem]
   refine hK _ _ ?_;clear hK hgd;clear K;try clear gd
   repeat refine c_r ?_
   refine zay (.inr rfl) Tryz.ntmps139 rfl (zaL ((vq1 h6)) rfl rfl (zah hB5 rfl) (zar (vr0) zau)) ?_
   have hkey:zdv (zbr (zaP R)) n t=s.key.2.2:=by
    have h1:=dataK_at (G:=zbr (zaP R)) (o:=n) (t:=t) (i:=i) (by omega) (fun j hj hji=>by rw[hG1 j (by omega) hj];exact hlow j (by omega) hji) (by rw[hG1 i hi (by omega),hs];exact ht)
    rw[h1,hG1 i hi (by omega),hs]
   have e1:=hE1.size
   refine⟨Keep.to_ext (hE12.trans hEA1) rfl (fun b hb=>by omega) hk5,s.ow,s.key.2.1,s.ttl,s.dv,true,rfl,hRr.2.1,?_,fun a n c hv=>?_⟩
   ·rw[hkey]
    exact(r2.ext hEA1).blocks fun a n c hv=>hk5.block _ (((r3.ext hEA1.size) a n c hv).2) (by have:=(r3 a n c hv).1;omega)
   ·have:=(r3.ext hEA1.size) a n c hv
    omega
  ·intro ht
   repeat refine c_r ?_
   refine rg2 h9 hi1' ?_
   repeat refine c_r ?_
   refine⟨m - 1,by omega,rfl,i+1,by omega,vq0,(vq1 h8),(vq1 h1),(vq1 h2),(vq1 h6),hEA1,fun j hj hji=>?_⟩
   by_cases hj2:j=i
   ·subst hj2;rw[hs];exact ht
   ·exact hlow j hj (by omega)
 ·intro hge
  simp only[decide_eq_false_iff_not]at hge
  have hi:i=G.length:=by omega
  repeat refine c_r ?_
  refine rq ?_;intro gd K hgd hK
  try simp (disch:=first|omega|assumption|rfl) only[go_sem,h6]
  refine⟨by kernel_rfl,?_⟩
  rw[show bdV Tryz.prog 222 []=some (.agg #[.slice Option.none 0 0,vi 0,v32 0,.slice Option.none 0 0]) from by kernel_rfl]
  try simp (disch:=first|omega|assumption|rfl) only[go_sem,h6]
  have hB:=Ext.at (hE2.trans hEA) hA
  refine zaE (P:=Tryz.prog) (t:=222) (l:=[.slice Option.none 0 0,vi 0,v32 0,.slice Option.none 0 0]) hB rfl (fun v h=>by simp at h;rcases h with rfl|rfl|rfl|rfl<;>rfl) rfl rfl ?_
  intro w4 hs5 hB5 hk5
  try simp only[go_sem]
  refine hK _ _ ?_;clear hK hgd;clear K;try clear gd
  repeat refine c_r ?_
  refine zay (.inr rfl) Tryz.ntmps139 rfl (zaL ((vq1 h6)) rfl rfl (zah hB5 rfl) (zar (vr0) zau)) ?_
  have hkey:zdv (zbr (zaP R)) n t=[]:=zjC (fun j hj=>by rw[hG1 j (by omega) hj];exact hlow j (by omega) (by omega))
  refine⟨Keep.to_ext (hE12.trans hEA) rfl (fun b hb=>by omega) hk5,.slice Option.none 0 0,0,0,.slice Option.none 0 0,false,rfl,rfl,?_,BlkB.nil⟩
  rw[hkey]
  exact Rows.nil _ _ _
end Go.Proofs.YtopbbjdembnfdaaGreat
