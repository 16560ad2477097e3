/-
  Texts of a proof, joined: C3, T0, S1, R1, L0, M3a, K14, R2, K13, N1, N2, R3, Q1, Q2, QCcn, QCcu, QCct, Q0uint32, Q3, K15, K16, D0, D1, D2, K17, D3, SS0, SO, CQ, CQ2, K19, K20, K21, M5rr, SS1rec.
  Conditions: none.
-/
import Derived.Test.YtkpdfhbpdkifoaaGreatDoorQPB01
import Derived.Lib.Bytealg
import Derived.Test.YtkpdfhbpdkifoaaGreatDoorProg
import Derived.Shelf.Small.Strs
import Derived.CallsIn
import Derived.Laws.Externs
set_option linter.unusedVariables false
set_option linter.unusedSimpArgs false
set_option linter.defProp false
set_option linter.unnecessarySimpa false
set_option maxHeartbeats 8000000
namespace Go.Proofs.YtkpdfhbpdkifoaaGreatDoor
open Go
set_option maxRecDepth 10000
abbrev Nm:=List (List UInt8)
def LB(n:Nm):Prop:=∀l∈n,l.length≤9000000000000000000
theorem LB.get{n:Nm}(h:LB n){i:Nat}(hi:i<n.length):n[i].length≤9000000000000000000:=h _ (List.getElem_mem hi)
def zaB(n:Nm):Nm:=n.map zaI
theorem za9(n:Nm):(zaB n).length=n.length:=by simp[zaB]
theorem zgF{n:Nm}{i:Nat}(h:i<n.length):zaB (n.take (i+1))=zaB (n.take i)++ [zaI n[i]]:=by
 rw[zak h];simp only[zaB,List.map_append,List.map_cons,List.map_nil]
theorem zim{a b:Nm}(h:a.length≠b.length):zaB a≠zaB b:=fun e=>h (by rw[←za9 a,e,za9])
theorem zjd{a b:Nm}{i:Nat}(ha:i<a.length)(hb:i<b.length)(h:zaI a[i]≠zaI b[i]):zaB a≠zaB b:=by
 intro e
 apply h
 have:=congrArg (fun l:Nm=>l[i]?) e
 simpa [zaB,ha,hb] using this
theorem Row.cut{w:World}{a:Option Addr}{n c:Nat}{l:List Value}(hn:n=l.length)(hc:n≤c)(hl:∀j (h:j<l.length),zad w (adr a j)=some l[j]){lo hi:Nat}(h1:lo≤hi)(h2:hi≤n):
  Row w (.slice (if c=lo then a else adr a lo) (hi - lo) (c - lo)) ((l.drop lo).take (hi - lo)):=by
 have hlen:((l.drop lo).take (hi - lo)).length=hi - lo:=by simp;omega
 refine⟨_,_,by rw[hlen],by omega,fun j hj=>?_⟩
 rw[hlen]at hj
 rw[if_neg (by omega),zeY,hl (lo+j) (by omega)]
 simp
theorem Row.tail{w:World}{a:Option Addr}{n c:Nat}{l:List Value}(hn:n=l.length)(hc:n≤c)(hl:∀j (h:j<l.length),zad w (adr a j)=some l[j]){lo:Nat}(h2:lo≤n):
  Row w (.slice (if c=lo then a else adr a lo) (n - lo) (c - lo)) (l.drop lo):=by
 have:=Row.cut hn hc hl h2 (Nat.le_refl _)
 rwa [List.take_of_length_le (by simp;omega)]at this
def zgp(n z:Nm):Bool:=decide (z.length≤n.length) && decide (zaB (n.drop (n.length - z.length))=zaB z)
theorem LB.drop{n:Nm}(h:LB n)(k:Nat):LB (n.drop k):=fun l hl=>h l (List.drop_subset _ _ hl)
theorem LSame_ok(w:World)(a b:List UInt8)(ha:a.length≤9000000000000000000)(hb:b.length≤9000000000000000000):Fn Tryz.prog 72 #[vs a,vs b] w (fun v w'=>v= .bool (decide (zaI a=zaI b))∧Ext w w'):=by
 refine enter Tryz.func72 Tryz.ntmps72 rfl rfl ?_
 repeat refine c_r ?_
 refine rg0 ?_
 repeat refine c_r ?_
 refine rq ?_;intro gd K hgd hK
 try simp only[go_sem]
 refine Fn.mono (zc8 _ _ ha) ?_
 rintro _ w1 ⟨rfl,hE1⟩
 try simp only[go_sem]
 refine Fn.mono (zc8 _ _ hb) ?_
 rintro _ w2 ⟨rfl,hE2⟩
 try simp only[go_sem]
 refine hK _ _ ?_;clear hK hgd;clear K;try clear gd
 repeat refine c_r ?_
 refine rt0 Tryz.ntmps72 ?_
 exact⟨rfl,hE1.trans hE2⟩
theorem EqualFunc_ok(w:World)(a b:Value)(xs ys:Nm)(ha:Row w a (xs.map vs))(hb:Row w b (ys.map vs))(hx:LB xs)(hy:LB ys)(hxl:xs.length≤9000000000000000000)(hyl:ys.length≤9000000000000000000):
  Fn Tryz.prog 71 #[a,b,.func (.func 72) #[] #[]] w (fun v w'=>v= .bool (decide (zaB xs=zaB ys))∧Ext w w'):=by
 obtain⟨a,ca,rfl,hca,hla⟩:=ha
 obtain⟨b,cb,rfl,hcb,hlb⟩:=hb
 simp only[List.length_map]at*
 refine enter Tryz.func71 Tryz.ntmps71 rfl rfl ?_
 repeat (first|refine c_r ?_|refine rg0 ?_)
 refine zbK (t:=!decide ((xs.length:Int)=ys.length)) (by simp only[go_sem]) ?_ ?_
 ·intro ht
  repeat (first|refine c_r ?_|refine rg0 ?_)
  refine rt0 Tryz.ntmps71 ?_
  exact⟨by rw[decide_eq_false (zim (by simp at ht;omega))],Keep.refl _ _⟩
 ·intro ht
  have hxy:xs.length=ys.length:=by simp at ht;omega
  clear ht
  repeat (first|refine c_r ?_|refine rg0 ?_)
  refine zaD (fun m σ ds v=>ds=[]∧∃i,i+m=xs.length∧σ 17=vi i∧σ 16=vi xs.length∧σ 15= .slice a xs.length ca∧σ 1= .slice b ys.length cb∧σ 2= .func (.func 72) #[] #[]∧Ext w v∧zaB (xs.take i)=zaB (ys.take i)) xs.length ?_ ?_
  ·refine⟨rfl,0,by omega,?_,?_,?_,?_,?_,Keep.refl _ _,by simp[zaB]⟩<;>simp only[go_sem]<;>rfl
  ·rintro m σ ds v ⟨rfl,i,him,h17,h16,h15,h1,h2,hE,hpre⟩
   repeat refine c_r ?_
   refine rg2 h17 h16 ?_
   repeat refine c_r ?_
   refine wc0 ?_ ?_
   ·intro hlt
    simp only[decide_eq_true_eq]at hlt
    have hsa:a.isSome=true:=zai (hla i (by omega))
    have hsb:b.isSome=true:=zai (hlb i (by omega))
    have hla':=fun j h=>zab hE (hla j h)
    have hlb':=fun j h=>zab hE (hlb j h)
    repeat (first|refine c_r ?_| (refine zd4 (by rfl) ?_;intro gd K hgd hK;simp (disch:=first|omega|assumption|rfl) only[go_sem,h17,h15,h1,hla',hlb',List.getElem_map];refine hK _ _ ?_;clear hK hgd;clear K gd))
    refine rq ?_;intro gd K hgd hK
    try simp (disch:=first|omega|assumption|rfl) only[go_sem,h2]
    refine Fn.mono (LSame_ok _ _ _ (LB.get hx _) (LB.get hy _)) ?_
    rintro _ x1 ⟨rfl,hx1⟩
    try simp only[go_sem]
    refine hK _ _ ?_;clear hK hgd;clear K;try clear gd
    repeat refine c_r ?_
    refine wc0 ?_ ?_
    ·intro hne
     simp only[Bool.not_eq_true',decide_eq_false_iff_not]at hne
     repeat refine c_r ?_
     refine rg0 ?_
     repeat refine c_r ?_
     refine rt0 Tryz.ntmps71 ?_
     exact⟨by rw[decide_eq_false (zjd (i:=i) (by omega) (by omega) hne)],hE.trans hx1⟩
    ·intro heq
     simp only[Bool.not_eq_false',decide_eq_true_eq]at heq
     repeat refine c_r ?_
     refine rg1 h17 ?_
     refine zaz ?_
     refine⟨m - 1,by omega,rfl,i+1,by omega,?_,?_,?_,?_,?_,hE.trans hx1,?_⟩
     ·simp only[go_sem];rfl
     ·simp only[go_sem,h16]
     ·simp only[go_sem,h15]
     ·simp only[go_sem,h1]
     ·simp only[go_sem,h2]
     ·rw[zgF (by omega),zgF (by omega),hpre,heq]
   ·intro hge
    simp only[decide_eq_false_iff_not]at hge
    repeat (first|refine c_r ?_|refine rg0 ?_)
    refine rt0 Tryz.ntmps71 ?_
    refine⟨?_,hE⟩
    rw[List.take_of_length_le (by omega),List.take_of_length_le (by omega)]at hpre
    rw[decide_eq_true hpre]
theorem znj(w:World)(a b:Value)(xs ys:Nm)(ha:Row w a (xs.map vs))(hb:Row w b (ys.map vs))(hx:LB xs)(hy:LB ys)(hxl:xs.length≤9000000000000000000)(hyl:ys.length≤9000000000000000000):
  Fn Tryz.prog 42 #[a,b] w (fun v w'=>v= .bool (decide (zaB xs=zaB ys))∧Ext w w'):=by
 refine enter Tryz.func42 Tryz.ntmps42 rfl rfl ?_
 repeat refine c_r ?_
 refine rg0 ?_
 repeat refine c_r ?_
 refine rq ?_;intro gd K hgd hK
 try simp only[go_sem]
 refine Fn.mono (EqualFunc_ok w _ _ _ _ ha hb hx hy hxl hyl) ?_
 rintro _ w1 ⟨rfl,hE⟩
 try simp only[go_sem]
 refine hK _ _ ?_;clear hK hgd;clear K;try clear gd
 repeat refine c_r ?_
 refine rt0 Tryz.ntmps42 ?_
 exact⟨rfl,hE⟩
theorem Under_ok(w:World)(a b:Value)(xs ys:Nm)(ha:Row w a (xs.map vs))(hb:Row w b (ys.map vs))(hx:LB xs)(hy:LB ys)(hxl:xs.length≤9000000000000000000)(hyl:ys.length≤9000000000000000000):
  Fn Tryz.prog 43 #[a,b] w (fun v w'=>v= .bool (zgp xs ys)∧Ext w w'):=by
 have hb0:=hb
 obtain⟨a,ca,rfl,hca,hla⟩:=ha
 obtain⟨b,cb,rfl,hcb,hlb⟩:=hb
 simp only[List.length_map]at*
 refine enter Tryz.func43 Tryz.ntmps43 rfl rfl ?_
 repeat refine c_r ?_
 refine rg0 ?_
 repeat refine c_r ?_
 refine rq ?_;intro gd K hgd hK
 have hg5:∀n σ b,zaE gd n σ (some (5,b))=zap (ev n σ (.tmp 10)) b:=(fun n σ b=>by rw[zag,show gd 5=some 10 from(by rw[hgd];rfl)];rfl)
 by_cases h:(ys.length:Int)≤xs.length
 ·try simp (disch:=first|omega|assumption|rfl) only[go_sem,decide_eq_true h,↓hg5]
  have hd:((xs.length:Int) - ys.length).toNat=xs.length - ys.length:=by omega
  have hcut:=Row.tail (l:=xs.map vs) (by simp) hca (fun j hj=>by rw[hla j (by simpa using hj)]) (lo:=xs.length - ys.length) (by omega)
  rw[←List.map_drop]at hcut
  rw[hd]
  refine Fn.mono (znj w _ _ _ _ hcut hb0 (hx.drop _) hy (by simp;omega) hyl) ?_
  rintro _ w1 ⟨rfl,hE⟩
  try simp (disch:=first|omega|assumption|rfl) only[go_sem,decide_eq_true h,↓hg5]
  refine hK _ _ ?_;clear hK hgd;clear K;try clear gd
  repeat refine c_r ?_
  refine rt0 Tryz.ntmps43 ?_
  exact⟨by simp[zgp];omega,hE⟩
 ·try simp (disch:=first|omega|assumption|rfl) only[go_sem,decide_eq_false h,↓hg5]
  refine hK _ _ ?_;clear hK hgd;clear K;try clear gd
  repeat refine c_r ?_
  refine rt0 Tryz.ntmps43 ?_
  exact⟨by simp[zgp];omega,Keep.refl _ _⟩
theorem KeepB.to_ext{n0:Nat}{C:Nat→Prop}{w0 w x:World}(h0:Ext w0 w)(h:KeepB n0 C w x)(hn:w0.heap.size≤n0)(hC:∀b,C b→w0.heap.size≤b):Ext w0 x:=
  ⟨h.os.trans h0.os,h.tape.trans h0.tape,h.output.trans h0.output,Nat.le_trans h0.size h.size,
   fun b hb _=>(h.block b (by omega) (fun hc=>by have:=hC b hc;omega)).trans (h0.block b hb (fun x=>x)),Nat.le_trans h0.drawn h.drawn⟩
abbrev cmpL:Lab→Lab→Int:=Lib.compareBytes
theorem zcc{a b:UInt8}:a<b↔a.toNat<b.toNat:=UInt8.lt_iff_toNat_lt
theorem ziC:∀a:Lab,cmpL a a=0
 | []=>rfl
 |a::l=>by
  show(if a<a then _ else if a<a then _ else cmpL l l)=0
  have h:¬a<a:=by rw[zcc];omega
  rw[if_neg h,if_neg h];exact ziC l
theorem zft:∀a b:Lab,cmpL b a= - cmpL a b
 | [],[]=>rfl
 | [],_::_=>rfl
 |_::_,[]=>rfl
 |a::l,b::m=>by
  show(if b<a then _ else if a<b then _ else cmpL m l)= - (if a<b then(-1:Int) else if b<a then 1 else cmpL l m)
  by_cases h1:a<b
  ·have h2:¬b<a:=by rw[zcc]at*;omega
   rw[if_neg h2,if_pos h1,if_pos h1];rfl
  ·by_cases h2:b<a
   ·rw[if_pos h2,if_neg h1,if_pos h2]
   ·rw[if_neg h2,if_neg h1,if_neg h1,if_neg h2];exact zft l m
theorem zcF:∀{a b:Lab},cmpL a b=0→a=b
 | [],[],_=>rfl
 | [],_::_,h=>by cases h
 |_::_,[],h=>by cases h
 |a::l,b::m,h=>by
  change (if a<b then(-1:Int) else if b<a then 1 else cmpL l m)=0 at h
  by_cases h1:a<b
  ·rw[if_pos h1]at h;cases h
  ·by_cases h2:b<a
   ·rw[if_neg h1,if_pos h2]at h;cases h
   ·rw[if_neg h1,if_neg h2]at h
    have e:a=b:=by
     apply UInt8.toNat_inj.1
     rw[zcc]at*;omega
    rw[e,zcF h]
theorem zgM:∀{a b c:Lab},cmpL a b≤0→cmpL b c≤0→cmpL a c≤0
 | [],_,[],_,_=>Int.le_refl _
 | [],_,_::_,_,_=>by show(-1:Int)≤0;omega
 |a::l,[],_,h,_=>by exact absurd h (by show¬(1:Int)≤0;omega)
 |a::l,b::m,[],_,h=>by exact absurd h (by show¬(1:Int)≤0;omega)
 |a::l,b::m,c::n,h1,h2=>by
  change (if a<b then(-1:Int) else if b<a then 1 else cmpL l m)≤0 at h1
  change (if b<c then(-1:Int) else if c<b then 1 else cmpL m n)≤0 at h2
  show(if a<c then(-1:Int) else if c<a then 1 else cmpL l n)≤0
  by_cases e1:a<b
  ·have e3:¬c<b∨c<b:=by by_cases h:c<b<;>simp[h]
   by_cases e2:c<b
   ·have e4:¬b<c:=by rw[zcc]at*;omega
    rw[if_neg e4,if_pos e2]at h2;omega
   ·have:a<c:=by rw[zcc]at*;omega
    rw[if_pos this];omega
  ·by_cases e2:b<a
   ·rw[if_neg e1,if_pos e2]at h1;omega
   ·have e:a=b:=by
     apply UInt8.toNat_inj.1
     rw[zcc]at*;omega
    subst e
    rw[if_neg e1,if_neg e2]at h1
    by_cases e3:a<c
    ·rw[if_pos e3];omega
    ·by_cases e4:c<a
     ·rw[if_neg e3,if_pos e4]at h2;omega
     ·rw[if_neg e3,if_neg e4]at h2
      rw[if_neg e3,if_neg e4]
      exact zgM h1 h2
theorem zf9:∀a b:Lab,zdt a b=decide (cmpL a b<0)
 | [],[]=>rfl
 | [],_::_=>rfl
 |_::_,[]=>rfl
 |a::l,b::m=>by
  show(decide (a<b)|| (a==b && zdt l m))=decide ((if a<b then(-1:Int) else if b<a then 1 else cmpL l m)<0)
  by_cases h1:a<b
  ·simp[h1]
  ·by_cases h2:b<a
   ·have:¬a=b:=by rintro rfl;exact h1 h2
    simp[h1,h2,this]
   ·have:a=b:=by apply UInt8.toNat_inj.1;rw[zcc]at*;omega
    subst this
    simp[h1,zf9 l m]
theorem zgN:∀a b:Lab,cmpL a b= -1∨cmpL a b=0∨cmpL a b=1
 | [],[]=> .inr (.inl rfl)
 | [],_::_=> .inl rfl
 |_::_,[]=> .inr (.inr rfl)
 |a::l,b::m=>by
  show(if a<b then(-1:Int) else if b<a then 1 else cmpL l m)= -1∨(if a<b then(-1:Int) else if b<a then 1 else cmpL l m)=0∨(if a<b then(-1:Int) else if b<a then 1 else cmpL l m)=1
  by_cases h1:a<b
  ·simp[h1]
  ·by_cases h2:b<a
   ·simp[h1,h2]
   ·simp only[h1,h2,if_false];exact zgN l m
theorem zeA{a b c:Lab}(h1:cmpL a b<0)(h2:cmpL b c≤0):cmpL a c<0:=by
 have h3:=zgM (Int.le_of_lt h1) h2
 by_cases h:cmpL a c=0
 ·have:=zcF h
  subst this
  have:=zft a b
  omega
 ·omega
theorem zgi(w:World)(a b:Lab):Fn Tryz.prog 111 #[vs a,vs b] w (fun v w'=>v=vi (cmpL a b)∧Ext w w'):=by
 have hc:=zgN a b
 have h1:=zf9 a b
 have h2:cmpL a b=0↔a=b:=⟨zcF,fun h=>by rw[h];exact ziC _⟩
 refine enter Tryz.func111 Tryz.ntmps111 rfl rfl ?_
 repeat (first|refine c_r ?_|refine rg0 ?_)
 refine wc0 ?_ ?_
 ·intro ht
  rw[h1]at ht
  simp only[decide_eq_true_eq]at ht
  repeat (first|refine c_r ?_|refine rg0 ?_)
  refine rt0 Tryz.ntmps111 ?_
  exact⟨by congr 1;omega,Keep.refl _ _⟩
 ·intro hf
  rw[h1]at hf
  simp only[decide_eq_false_iff_not]at hf
  repeat (first|refine c_r ?_|refine rg0 ?_)
  refine wc0 ?_ ?_
  ·intro ht
   rw[h1]at ht
   simp only[Bool.not_eq_true',Bool.or_eq_false_iff,decide_eq_false_iff_not]at ht
   repeat (first|refine c_r ?_|refine rg0 ?_)
   refine rt0 Tryz.ntmps111 ?_
   refine⟨?_,Keep.refl _ _⟩
   have:¬cmpL a b=0:=fun h=>ht.2 (h2.1 h)
   congr 1;omega
  ·intro hf2
   rw[h1]at hf2
   simp only[Bool.not_eq_false',Bool.or_eq_true,decide_eq_true_eq]at hf2
   repeat (first|refine c_r ?_|refine rg0 ?_)
   refine rt0 Tryz.ntmps111 ?_
   refine⟨?_,Keep.refl _ _⟩
   have:cmpL a b=0:=h2.2 (hf2.resolve_left hf)
   rw[this]
theorem zfb(w:World)(a b:Lab)(ha:a.length≤9000000000000000000)(hb:b.length≤9000000000000000000):Fn Tryz.prog 108 #[vs a,vs b] w (fun v w'=>v=vi (cmpL (zaI a) (zaI b))∧Ext w w'):=by
 refine enter Tryz.func108 Tryz.ntmps108 rfl rfl ?_
 repeat (first|refine c_r ?_|refine rg0 ?_)
 refine rq ?_;intro gd K hgd hK
 try simp only[go_sem]
 refine Fn.mono (zeD _ _ ha) ?_
 rintro _ w1 ⟨rfl,hE1⟩
 try simp only[go_sem]
 refine Fn.mono (zeD _ _ hb) ?_
 rintro _ w2 ⟨rfl,hE2⟩
 try simp only[go_sem]
 refine Fn.mono (zgi _ _ _) ?_
 rintro _ w3 ⟨rfl,hE3⟩
 try simp only[go_sem]
 refine hK _ _ ?_;clear hK hgd;clear K;try clear gd
 repeat refine c_r ?_
 refine rt0 Tryz.ntmps108 ?_
 exact⟨rfl,(hE1.trans hE2).trans hE3⟩
def sgn(n:Int):Int:=if n<0 then -1 else if 0<n then 1 else 0
theorem zdL(w:World)(n:Int):Fn Tryz.prog 109 #[vi n] w (fun v w'=>v=vi (sgn n)∧Ext w w'):=by
 refine enter Tryz.func109 Tryz.ntmps109 rfl rfl ?_
 repeat (first|refine c_r ?_|refine rg0 ?_)
 refine wc0 ?_ ?_
 ·intro ht
  simp only[decide_eq_true_eq]at ht
  repeat (first|refine c_r ?_|refine rg0 ?_)
  refine rt0 Tryz.ntmps109 ?_
  exact⟨by rw[sgn,if_pos ht],Keep.refl _ _⟩
 ·intro hf
  simp only[decide_eq_false_iff_not]at hf
  repeat (first|refine c_r ?_|refine rg0 ?_)
  refine wc0 ?_ ?_
  ·intro ht
   simp only[decide_eq_true_eq]at ht
   repeat (first|refine c_r ?_|refine rg0 ?_)
   refine rt0 Tryz.ntmps109 ?_
   exact⟨by rw[sgn,if_neg hf,if_pos ht],Keep.refl _ _⟩
  ·intro hf2
   simp only[decide_eq_false_iff_not]at hf2
   repeat (first|refine c_r ?_|refine rg0 ?_)
   refine rt0 Tryz.ntmps109 ?_
   exact⟨by rw[sgn,if_neg hf,if_neg hf2],Keep.refl _ _⟩
def cmpR:Nm→Nm→Int
 | [],[]=>0
 | [],_::_=> -1
 |_::_,[]=>1
 |a::l,b::m=>if cmpL a b=0 then cmpR l m else cmpL a b
def cmpN(a b:Nm):Int:=cmpR a.reverse b.reverse
theorem zka:∀a b:Nm,a=[]∨b=[]→cmpR a b=sgn ((a.length:Int) - b.length)
 | [],[],_=>rfl
 | [],_::_,_=>by simp only[cmpR,sgn,List.length_cons,List.length_nil];rw[if_pos (by omega)]
 |_::_,[],_=>by simp only[cmpR,sgn,List.length_cons,List.length_nil];rw[if_neg (by omega),if_pos (by omega)]
 |_::_,_::_,h=>by simp at h
theorem ziB{a b:Nm}{i:Nat}(ha:i<a.length)(hb:i<b.length):cmpR (a.drop i) (b.drop i)=if cmpL a[i] b[i]=0 then cmpR (a.drop (i+1)) (b.drop (i+1)) else cmpL a[i] b[i]:=by
 rw[List.drop_eq_getElem_cons ha,List.drop_eq_getElem_cons hb];rfl
theorem zgj(w:World)(a b:Value)(xs ys:Nm)(ha:Row w a (xs.map vs))(hb:Row w b (ys.map vs))(hx:LB xs)(hy:LB ys)(hxl:xs.length≤9000000000000000000)(hyl:ys.length≤9000000000000000000):
  Fn Tryz.prog 69 #[a,b] w (fun v w'=>v=vi (cmpN (zaB xs) (zaB ys))∧Ext w w'):=by
 obtain⟨a,ca,rfl,hca,hla⟩:=ha
 obtain⟨b,cb,rfl,hcb,hlb⟩:=hb
 simp only[List.length_map]at*
 refine enter Tryz.func69 Tryz.ntmps69 rfl rfl ?_
 repeat (first|refine c_r ?_|refine rg0 ?_)
 refine zaD (fun m σ ds v=>ds=[]∧∃i:Nat,i+m=xs.length∧i≤ys.length∧σ 5=vi (i+1)∧σ 0= .slice a xs.length ca∧σ 1= .slice b ys.length cb∧Ext w v∧cmpN (zaB xs) (zaB ys)=cmpR ((zaB xs).reverse.drop i) ((zaB ys).reverse.drop i)) xs.length ?_ ?_
 ·refine⟨rfl,0,by omega,by omega,?_,?_,?_,Keep.refl _ _,by simp[cmpN]⟩<;>simp only[go_sem]<;>rfl
 ·rintro m σ ds v ⟨rfl,i,him,hiy,h5,h0,h1,hE,hinv⟩
  repeat refine c_r ?_
  refine rq ?_;intro gd K hgd hK
  have hg4:∀n σ b,zaE gd n σ (some (4,b))=zap (ev n σ (.tmp 11)) b:=(fun n σ b=>by rw[zag,show gd 4=some 11 from(by rw[hgd];rfl)];rfl)
  have hstep:∀(c:Bool),(c=true↔i<xs.length∧i<ys.length)→c=false→cmpR ((zaB xs).reverse.drop i) ((zaB ys).reverse.drop i)=sgn ((xs.length:Int) - ys.length):=fun c hc hf=>by
   have hno:¬(i<xs.length∧i<ys.length):=fun h=>by rw[hc.2 h]at hf;cases hf
   have e1:((zaB xs).reverse.drop i).length=xs.length - i:=by simp[za9]
   have e2:((zaB ys).reverse.drop i).length=ys.length - i:=by simp[za9]
   rw[zka _ _ (by
    rcases Nat.lt_or_ge i xs.length with h|h
    ·exact .inr (List.length_eq_zero_iff.1 (by omega))
    ·exact .inl (List.length_eq_zero_iff.1 (by omega))),e1,e2]
   congr 1;omega
  by_cases hlx:((i:Int)+1≤xs.length)
  ·try simp (disch:=first|omega|assumption|rfl) only[go_sem,h5,h0,h1,decide_eq_true hlx,↓hg4]
   refine hK _ _ ?_;clear hK hgd;clear K;try clear gd
   repeat refine c_r ?_
   refine wc0 ?_ ?_
   ·intro hly
    simp only[decide_eq_true_eq]at hly
    have hsa:a.isSome=true:=zai (hla (xs.length - 1 - i) (by omega))
    have hsb:b.isSome=true:=zai (hlb (ys.length - 1 - i) (by omega))
    repeat refine c_r ?_
    refine zaF (fun _=>false) [(0,true),(1,true),(2,true),(3,true),(4,true),(5,true),(6,true),(7,true),(8,true),(9,true),(10,true),(11,true),(12,true),(13,true),(14,false),(15,true)] NoS mixed (by kernel_rfl) ?_;intro gd K x hgd hx hxe hK;clear hxe
    have hla':=fun j h=>zab (hE.trans hx) (hla j h)
    have hlb':=fun j h=>zab (hE.trans hx) (hlb j h)
    have e1:((xs.length:Int) - (i+1)).toNat=xs.length - 1 - i:=by omega
    have e2:((ys.length:Int) - (i+1)).toNat=ys.length - 1 - i:=by omega
    simp (disch:=first|omega|assumption) only[go_sem,h5,h0,h1,e1,e2,hla',hlb',List.getElem_map]
    refine Fn.mono (zfb _ _ _ (LB.get ‹LB xs› _) (LB.get ‹LB ys› _)) ?_
    rintro _ x1 ⟨rfl,hx1⟩
    refine⟨.inr hx1,?_⟩
    simp (disch:=first|omega|assumption|rfl) only[go_sem]
    refine hK _ _ ?_;clear hK hgd;clear K;try clear gd
    have hst:=ziB (a:=(zaB xs).reverse) (b:=(zaB ys).reverse) (i:=i) (by simp[za9];omega) (by simp[za9];omega)
    have g1:(zaB xs).reverse[i]'(by simp[za9];omega)=zaI (xs[xs.length - 1 - i]'(by omega)):=by
     rw[List.getElem_reverse];simp[zaB]
    have g2:(zaB ys).reverse[i]'(by simp[za9];omega)=zaI (ys[ys.length - 1 - i]'(by omega)):=by
     rw[List.getElem_reverse];simp[zaB]
    rw[g1,g2]at hst
    repeat refine c_r ?_
    refine rg0 ?_
    repeat refine c_r ?_
    refine wc0 ?_ ?_
    ·intro hne
     simp only[Bool.not_eq_true',decide_eq_false_iff_not]at hne
     repeat (first|refine c_r ?_|refine rg0 ?_)
     refine rt0 Tryz.ntmps69 ?_
     refine⟨by rw[hinv,hst,if_neg hne],(hE.trans hx).trans hx1⟩
    ·intro heq
     simp only[Bool.not_eq_false',decide_eq_true_eq]at heq
     repeat refine c_r ?_
     refine rq ?_;intro gd K hgd hK
     try simp (disch:=first|omega|assumption|rfl) only[go_sem,h5]
     refine hK _ _ ?_;clear hK hgd;clear K;try clear gd
     repeat refine c_r ?_
     refine⟨m - 1,by omega,rfl,i+1,by omega,by omega,?_,?_,?_,(hE.trans hx).trans hx1,?_⟩
     ·simp only[go_sem];push_cast;rfl
     ·simp only[go_sem,h0]
     ·simp only[go_sem,h1]
     ·rw[hinv,hst,if_pos heq]
   ·intro hge
    simp only[decide_eq_false_iff_not]at hge
    repeat refine c_r ?_
    refine rq ?_;intro gd K hgd hK
    try simp (disch:=first|omega|assumption|rfl) only[go_sem,h0,h1]
    refine Fn.mono (zdL _ _) ?_
    rintro _ w2 ⟨rfl,hE2⟩
    try simp only[go_sem]
    refine hK _ _ ?_;clear hK hgd;clear K;try clear gd
    repeat refine c_r ?_
    refine rt0 Tryz.ntmps69 ?_
    exact⟨by rw[hinv,hstep false (by simp;omega) rfl],hE.trans hE2⟩
  ·try simp (disch:=first|omega|assumption|rfl) only[go_sem,h5,h0,h1,decide_eq_false hlx,↓hg4]
   refine hK _ _ ?_;clear hK hgd;clear K;try clear gd
   repeat refine c_r ?_
   refine wc0 ?_ ?_
   ·intro h;simp at h
   ·intro _
    repeat refine c_r ?_
    refine rq ?_;intro gd K hgd hK
    try simp (disch:=first|omega|assumption|rfl) only[go_sem,h0,h1]
    refine Fn.mono (zdL _ _) ?_
    rintro _ w2 ⟨rfl,hE2⟩
    try simp only[go_sem]
    refine hK _ _ ?_;clear hK hgd;clear K;try clear gd
    repeat refine c_r ?_
    refine rt0 Tryz.ntmps69 ?_
    exact⟨by rw[hinv,hstep false (by simp;omega) rfl],hE.trans hE2⟩
end Go.Proofs.YtkpdfhbpdkifoaaGreatDoor
namespace Go.Proofs
open Go.Shelf
def Tryz.lays106_ren:Go.Shelf.Ren:=⟨fun|106=>106|213=>145|265=>169|n=>n,fun|9=>9|3=>3|n=>n,fun|n=>n⟩
theorem Tryz.lays106:Go.Proofs.Lays.n106 Tryz.prog Tryz.lays106_ren:={
 mixed:=by kernel_rfl
 f106:=Tryz.func106.trans (congrArg some (by kernel_rfl))
 f213:=Tryz.func145.trans (congrArg some (by kernel_rfl))
 f265:=Tryz.func169.trans (congrArg some (by kernel_rfl))
 t3:=Tryz.underlying3
 a3:=Tryz.isAgg3
 z3:=Tryz.sizeOf3
 v3:=Tryz.zeroValue3
 t9:=Tryz.underlying9
 a9:=Tryz.isAgg9
 z9:=Tryz.sizeOf9
 v9:=Tryz.zeroValue9}
end Go.Proofs
namespace Go.Proofs.YtkpdfhbpdkifoaaGreatDoor
open Go
set_option maxRecDepth 10000
theorem Fn.of_calls{P:Program}{f:FuncId}{args:Array Value}{w:World}{R:Value→World→Prop}(h:Calls P f args w (fun e w'=>∃v,e= .returned v∧R v w')):Fn P f args w R:=callsIn_wide.2 h
theorem Fn.calls{P:Program}{f:FuncId}{args:Array Value}{w:World}{R:Value→World→Prop}(h:Fn P f args w R):Calls P f args w (fun e w'=>∃v,e= .returned v∧R v w'):=callsIn_wide.1 h
theorem zgg(w:World)(a b:Lab):Fn Tryz.prog 106 #[vs a,vs b] w (fun v w'=>v=vi (cmpL a b)∧w'=w):=
 Fn.of_calls (Calls.mono (Any.strings_Compare Tryz.lays106 ⟨a.toArray⟩ ⟨b.toArray⟩ w) fun _ _ ⟨he,hw⟩=>⟨_,he,rfl,hw⟩)
theorem zjq(w:World)(a b:Lab)(ha:a.length≤9000000000000000000)(hb:b.length≤9000000000000000000):Fn Tryz.prog 100 #[vs a,vs b] w (fun v w'=>v=vi (cmpL (zaI a) (zaI b))∧Ext w w'):=by
 refine enter Tryz.func100 Tryz.ntmps100 rfl rfl ?_
 repeat (first|refine c_r ?_|refine rg0 ?_)
 refine rq ?_;intro gd K hgd hK
 try simp only[go_sem]
 refine Fn.mono (zc8 _ _ ha) ?_
 rintro _ w1 ⟨rfl,hE1⟩
 try simp only[go_sem]
 refine Fn.mono (zc8 _ _ hb) ?_
 rintro _ w2 ⟨rfl,hE2⟩
 try simp only[go_sem]
 refine Fn.mono (zgg _ _ _) ?_
 rintro _ w3 ⟨rfl,rfl⟩
 try simp only[go_sem]
 refine hK _ _ ?_;clear hK hgd;clear K;try clear gd
 repeat refine c_r ?_
 refine rt0 Tryz.ntmps100 ?_
 exact⟨rfl,hE1.trans hE2⟩
theorem zlM{P:Program}{e:TypeId}{ad:Option Addr}{n c:Nat}{k k':IntKind}(h:n≤c)(hi:(P.info? e).isSome=true):
  slD P (some (.slice e)) (.slice ad n c) Option.none (some (.int k n)) (some (.int k' n))=some (.slice ad n n):=by
 have e1:slB Option.none=some 0:=rfl
 have e2:∀(k:IntKind) (d:Nat),slH (some (.int k (n:Int))) d=some n:=fun k d=>by simp[slH]
 simp only[slD,e1,e2]
 simp[h,hi,zam]
--?? slices.Clip[[]string,string]
def Own(B:Nat)(w:World)(e:TypeId)(v:Value)(l:List Value):Prop:=w.ownsRow B e 1 v l.length l
section
variable {P : Program} {d : Option Tmp} {ty : TypeId} {ps : String} {af : Array Edge} {g : Option (Nat × Bool)} {ρ : Operand → Value} {w : World} {K : Value → World → Prop}
theorem Own.slice{B:Nat}{e:TypeId}{v:Value}{l:List Value}(h:Own B w e v l):∃a c,v= .slice a l.length c:=by
 rcases h.2 with ⟨rfl,h0⟩| ⟨g,cap,cur,rfl,_⟩
 ·exact⟨_,_,by rw[h0]⟩
 ·exact⟨_,_,rfl⟩
theorem Own.row{B:Nat}{e:TypeId}{v:Value}{l:List Value}(h:Own B w e v l):Row w v l:=Row.of_owns h
theorem Own.rowB{B:Nat}{e:TypeId}{v:Value}{l:List Value}(h:Own B w e v l):RowB B w v l:=RowB.of_owns h
theorem Own.nil(B:Nat)(w:World)(e:TypeId):Own B w e (.slice Option.none 0 0) []:=⟨rfl,.inl ⟨rfl,rfl⟩⟩
theorem Own.ge{B:Nat}{e:TypeId}{v:Value}{l:List Value}(h:Own B w e v l){b:Nat}(hb:some b=v.ownBlock):B≤b∧b<w.heap.size:=by
 rcases h.2 with ⟨rfl,_⟩| ⟨g,cap,cur,rfl,hg,hc,_⟩
 ·cases hb
 ·cases hb;exact⟨hg,(Array.getElem?_eq_some_iff.1 hc).1⟩
theorem Own.keep{B:Nat}{e:TypeId}{v:Value}{l:List Value}{x:World}{S:Nat→Prop}(h:Own B w e v l)(hk:Keep S w x)(hS:∀b,some b=v.ownBlock→¬S b):Own B x e v l:=by
 obtain⟨h1,h2⟩:=h
 refine⟨h1,?_⟩
 rcases h2 with h2| ⟨g,cap,cur,hv,hb,hg,rest⟩
 ·exact .inl h2
 ·exact .inr ⟨g,cap,cur,hv,hb,(hk.block _ (Array.getElem?_eq_some_iff.1 hg).1 (hS _ (by rw[hv];rfl))).trans hg,rest⟩
theorem Own.ext{B:Nat}{e:TypeId}{v:Value}{l:List Value}{x:World}(h:Own B w e v l)(hk:Ext w x):Own B x e v l:=h.keep hk (fun _ _ h=>h)
theorem Own.mono{B B':Nat}{e:TypeId}{v:Value}{l:List Value}(h:Own B w e v l)(hB:B'≤B):Own B' w e v l:=by
 obtain⟨h1,h2⟩:=h
 refine⟨h1,?_⟩
 rcases h2 with h2| ⟨g,cap,cur,hv,hb,rest⟩
 ·exact .inl h2
 ·exact .inr ⟨g,cap,cur,hv,by omega,rest⟩
theorem zbk{t e:TypeId}{z v:Value}(hu:tyU P t=some (.slice e))(hz:tyZ P e=some z)(hs:tyS P e=1)(hz1:z.cells=#[z])(hv:v.cells=#[v])
  (h:∀w1,Ext w w1→w1.heap.size=w.heap.size+1→Own w.heap.size w1 e (.slice (some ⟨w.heap.size,0,Option.none⟩) 1 1) [v]→K (.slice (some ⟨w.heap.size,0,Option.none⟩) 1 1) w1):bsL P t 1 [(0,v)] w K .mk:=by
 unfold bsL bsK
 rw[bsC_one hu hz hs hz1 hv]
 exact h _ (Ext.alloc w _) (zax w _) ⟨rfl,.inr ⟨w.heap.size,1,#[v],rfl,Nat.le_refl _,zat w _,Nat.le_refl _,by decide,rfl,rfl⟩⟩
theorem set2{A:Array Value}(h:A.size=2)(u v:Value):(A.setIfInBounds 0 u).setIfInBounds 1 v=#[u,v]:=by
 obtain⟨l⟩:=A
 match l,h with
 | [x,y],_=>rfl
theorem zm5{t e:TypeId}{z u v:Value}(hu:tyU P t=some (.slice e))(hz:tyZ P e=some z)(hs:tyS P e=1)(hz1:z.cells=#[z])(hu1:u.cells=#[u])(hv:v.cells=#[v])
  (h:∀w1,Ext w w1→w1.heap.size=w.heap.size+1→Own w.heap.size w1 e (.slice (some ⟨w.heap.size,0,Option.none⟩) 2 2) [u,v]→K (.slice (some ⟨w.heap.size,0,Option.none⟩) 2 2) w1):bsL P t 2 [(0,u),(1,v)] w K .mk:=by
 unfold bsL bsK
 have:bsC P t 2 [(0,u),(1,v)]=some (e,#[u,v]):=by
  simp[bsC,hu,hz,hs,hz1,Instr.fill,hu1,hv]
  exact set2 (by simp) u v
 rw[this]
 exact h _ (Ext.alloc w _) (zax w _) ⟨rfl,.inr ⟨w.heap.size,2,#[u,v],rfl,Nat.le_refl _,zat w _,Nat.le_refl _,by decide,rfl,rfl⟩⟩
theorem zkf{t e:TypeId}{z:Value}(hu:tyU P t=some (.slice e))(hz:tyZ P e=some z)(hs:tyS P e=1)(hz1:z.cells=#[z])
  (h:∀w1,Ext w w1→w1.heap.size=w.heap.size+1→Own w.heap.size w1 e (.slice (some ⟨w.heap.size,0,Option.none⟩) 0 0) []→K (.slice (some ⟨w.heap.size,0,Option.none⟩) 0 0) w1):bsL P t 0 [] w K .mk:=by
 unfold bsL bsK
 have:bsC P t 0 []=some (e,#[]):=by simp[bsC,hu,hz,hs,hz1,Instr.fill]
 rw[this]
 exact h _ (Ext.alloc w _) (zax w _) ⟨rfl,.inr ⟨w.heap.size,0,#[],rfl,Nat.le_refl _,zat w _,Nat.le_refl _,by decide,rfl,rfl⟩⟩
theorem za8{B:Nat}{s x:Operand}{t e:TypeId}{inf:TypeInfo}{z:Value}{bytes:Nat}{v u:Value}{l news:List Value}(hown:Own B w e v l)(hrow:Row w u news)
  (ht:tyU P t=some (.slice e)) (hi:P.info? e=some inf) (hz:inf.zero=some z)
  (hsize:inf.size=1) (hby:inf.bytes=bytes) (hzs:z.cells.size=1) (hv:ρ s=v) (hu:ρ x=u) 
  (h1:∀q∈news,one q=true) (hlen:l.length+news.length≤1000000000000) (hbytes:bytes≤100) (hB:B≤w.heap.size)
  (h:∀v' w',Own B w' e v' (l++news)→(∀w0,Ext w0 w→w0.heap.size≤B→Ext w0 w')→Keep (fun b=>some b=v.ownBlock) w w'→(∀b,some b=v'.ownBlock→some b=v.ownBlock∨w.heap.size≤b)→K v' w'):
  opW P ⟨d,.call ⟨.builtin .append,#[s,x],#[t,t]⟩,ty,ps,af,g⟩ ρ w K:=by
 refine zh3 (B:=B) (m:=news.length) (xs:=l) (n:=l.length) ht hi hz hsize hby hzs (by decide) hv hu hown (Src1.of_row hrow) h1 (by simp[maxLen];omega) ?_ hB ?_
 ·have:(l.length+news.length)*bytes≤1000000000000*100:=Nat.mul_le_mul hlen hbytes
  omega
 ·intro v' w' ho hk hw
  refine h v' w' (by simpa [Own] using ho) (fun w0 hE hB0=>?_) hk hw.2
  exact Keep.to_ext hE rfl (fun b hb=>by have:=(Own.ge (l:=l) hown hb).1;omega) hk
theorem v_min(a:Array Operand)(t:Array TypeId):opV P ⟨d,.call ⟨.builtin .min,a,t⟩,ty,ps,af,g⟩ ρ w K=opL P ⟨d,.call ⟨.builtin .min,a,t⟩,ty,ps,af,g⟩ ρ w K .mk:=nr rfl
theorem zfN{x y:Operand}{ts:Array TypeId}{k:IntKind}{a b:Int}(hx:ρ x= .int k a)(hy:ρ y= .int k b)(h:K (.int k (min a b)) w):opW P ⟨d,.call ⟨.builtin .min,#[x,y],ts⟩,ty,ps,af,g⟩ ρ w K:=by
 simp only[opW,execOp,Sem.run_bind,resolve]
 simp only[Sem.run_pure,Result.andThen_ok,invoke,builtin]
 refine zaC (s:=Builtin.min_ ts ty (Array.map ρ #[x,y])) (v:= .int k (min a b)) (w':=w) ?_ h
 simp[Builtin.min_,hx,hy,Builtin.min2,Sem.run,List.foldlM]
 omega
end
attribute [go_sem] b_quo b_rem
attribute [go_sem ↓] v_min
theorem ones_vs(l:List Lab):∀q∈l.map vs,one q=true:=fun q hq=>by
 obtain⟨s,_,rfl⟩:=List.mem_map.1 hq
 rfl
def few(n:Nm):Bool:=decide (n.length≤140) && n.all fun l=>decide (l.length≤100)
theorem few_lb{n:Nm}(h:few n=true):LB n:=fun l hl=>by
 simp only[few,Bool.and_eq_true,List.all_eq_true,decide_eq_true_eq]at h
 have:=h.2 l hl;omega
theorem few_len{n:Nm}(h:few n=true):n.length≤140:=by
 simp only[few,Bool.and_eq_true,decide_eq_true_eq]at h
 exact h.1
theorem ziQ(w:World)(a:Value)(xs:Nm)(ha:Row w a (xs.map vs)):
  Fn Tryz.prog 19 #[a] w (fun v w'=>v= .bool (few xs)∧Ext w w'):=by
 obtain⟨a,ca,rfl,hca,hla⟩:=ha
 simp only[List.length_map]at*
 refine enter Tryz.func19 Tryz.ntmps19 rfl rfl ?_
 repeat (first|refine c_r ?_|refine rg0 ?_)
 refine wc0 ?_ ?_
 ·intro h
  simp only[decide_eq_true_eq]at h
  repeat (first|refine c_r ?_|refine rg0 ?_)
  refine rt0 Tryz.ntmps19 ?_
  exact⟨by rw[few,decide_eq_false (by omega)];rfl,Keep.refl _ _⟩
 ·intro h
  simp only[decide_eq_false_iff_not]at h
  repeat (first|refine c_r ?_|refine rg0 ?_)
  refine zaD (fun m σ ds A=>ds=[]∧∃i:Nat,i+m=xs.length∧σ 3=vi i∧σ 0= .slice a xs.length ca∧Ext w A∧∀l∈xs.take i,l.length≤100) xs.length ?_ ?_
  ·refine⟨rfl,0,by omega,?_,?_,Keep.refl _ _,by simp⟩<;>simp only[go_sem]<;>rfl
  ·rintro m σ ds A ⟨rfl,i,him,h3,h0,hE,hall⟩
   repeat refine c_r ?_
   refine rg2 h3 h0 ?_
   repeat refine c_r ?_
   refine wc0 ?_ ?_
   ·intro hlt
    simp only[decide_eq_true_eq]at hlt
    have hsa:a.isSome=true:=zai (hla i (by omega))
    have hla':=fun j h=>zab hE (hla j h)
    repeat refine c_r ?_
    refine rq ?_;intro gd K hgd hK;simp (disch:=first|omega|assumption|rfl) only[go_sem,h3,h0,hla',List.getElem_map];refine hK _ _ ?_;clear hK hgd;clear K gd
    repeat refine c_r ?_
    refine wc0 ?_ ?_
    ·intro hb
     simp only[decide_eq_true_eq]at hb
     repeat (first|refine c_r ?_|refine rg0 ?_)
     refine rt0 Tryz.ntmps19 ?_
     refine⟨?_,hE⟩
     have:few xs=false:=by
      rw[←Bool.not_eq_true]
      intro hf
      simp only[few,Bool.and_eq_true,List.all_eq_true,decide_eq_true_eq]at hf
      have:=hf.2 (xs[i]'(by omega)) (List.getElem_mem _)
      omega
     rw[this]
    ·intro hb
     simp only[decide_eq_false_iff_not]at hb
     repeat refine c_r ?_
     refine rg1 h3 ?_
     repeat refine c_r ?_
     refine⟨m - 1,by omega,rfl,i+1,by omega,by simp only[go_sem];push_cast;rfl,(vq1 h0),hE,fun l hl=>?_⟩
     rw[zak (by omega)]at hl
     rcases List.mem_append.1 hl with hl|hl
     ·exact hall l hl
     ·rw[List.mem_singleton.1 hl];omega
   ·intro hge
    simp only[decide_eq_false_iff_not]at hge
    repeat (first|refine c_r ?_|refine rg0 ?_)
    refine rt0 Tryz.ntmps19 ?_
    refine⟨?_,hE⟩
    rw[List.take_of_length_le (by omega)]at hall
    have:few xs=true:=by
     simp only[few,Bool.and_eq_true,List.all_eq_true,decide_eq_true_eq]
     exact⟨by omega,hall⟩
    rw[this]
def NamesAt(w:World)(v:Value)(ns:List Nm):Prop:=∃vals,Row w v vals∧vals.length=ns.length∧∀i (h:i<vals.length) (h':i<ns.length),Row w vals[i] (ns[i].map vs)
theorem zkb:∀a b:Nm,cmpR b a= - cmpR a b
 | [],[]=>rfl
 | [],_::_=>rfl
 |_::_,[]=>rfl
 |a::l,b::m=>by
  simp only[cmpR]
  rw[zft a b]
  by_cases h:cmpL a b=0
  ·simp[h,zkb l m]
  ·have:¬ -cmpL a b=0:=by omega
   simp[h,this]
theorem ziA:∀{a b:Nm},cmpR a b=0→a=b
 | [],[],_=>rfl
 | [],_::_,h=>by cases h
 |_::_,[],h=>by cases h
 |a::l,b::m,h=>by
  simp only[cmpR]at h
  split at h
  ·rename_i h';rw[zcF h',ziA h]
  ·rename_i h';exact absurd h h'
theorem zgL:∀{a b c:Nm},cmpR a b<0→cmpR b c<0→cmpR a c<0
 | [],[],_,h,_=>by simp[cmpR]at h
 | [],_::_,[],_,h=>by simp[cmpR]at h
 | [],_::_,_::_,_,_=>by simp[cmpR]
 |_::_,[],_,h,_=>by simp[cmpR]at h
 |_::_,_::_,[],_,h=>by simp[cmpR]at h
 |a::l,b::m,c::n,h1,h2=>by
  simp only[cmpR]at*
  by_cases e1:cmpL a b=0
  ·rw[if_pos e1]at h1
   have:=zcF e1
   subst this
   by_cases e2:cmpL a c=0
   ·rw[if_pos e2]at h2 ⊢;exact zgL h1 h2
   ·rw[if_neg e2]at h2 ⊢;exact h2
  ·rw[if_neg e1]at h1
   have h2':cmpL b c≤0:=by
    by_cases e2:cmpL b c=0
    ·omega
    ·rw[if_neg e2]at h2;omega
   have:=zeA h1 h2'
   rw[if_neg (by omega)];exact this
theorem cmpN_neg(a b:Nm):cmpN b a= - cmpN a b:=zkb _ _
theorem zmZ{a b:Nm}(h:cmpN a b=0):a=b:=by
 have:=ziA h
 simpa using congrArg List.reverse this
theorem zk1{a b c:Nm}(h1:cmpN a b<0)(h2:cmpN b c<0):cmpN a c<0:=zgL h1 h2
theorem NamesAt.ext{w x:World}{v:Value}{L:List Nm}(h:NamesAt w v L)(hE:Ext w x):NamesAt x v L:=by
 obtain⟨vals,h1,h2,h3⟩:=h
 exact⟨vals,h1.ext hE,h2,fun i a b=>(h3 i a b).ext hE⟩
theorem Or_ok(w:World)(a:Value)(l:List Int)(ha:Row w a (l.map vi))(hl:l.length≤1000000000000):Fn Tryz.prog 65 #[a] w (fun v w'=>v=vi (orI l)∧w'=w):=by
 obtain⟨a,ca,rfl,hca,hla⟩:=ha
 simp only[List.length_map]at*
 refine enter Tryz.func65 Tryz.ntmps65 rfl rfl ?_
 repeat (first|refine c_r ?_|refine rg0 ?_)
 refine zaD (fun m σ ds v=>ds=[]∧v=w∧∃i:Nat,i+m=l.length∧σ 8=vi i∧σ 7=vi l.length∧σ 6= .slice a l.length ca∧σ 3=vi 0∧orI l=orI (l.drop i)) l.length ?_ ?_
 ·refine⟨rfl,rfl,0,by omega,?_,?_,?_,?_,by simp⟩
  ·simp only[go_sem];rfl
  ·simp only[go_sem]
  ·simp only[go_sem]
  ·simp only[go_sem]
 ·rintro m σ ds v ⟨rfl,hv,i,him,h8,h7,h6,h3,hinv⟩
  rw[hv]
  repeat refine c_r ?_
  refine rg2 h8 h7 ?_
  repeat refine c_r ?_
  refine wc0 ?_ ?_
  ·intro hlt
   simp only[decide_eq_true_eq]at hlt
   have hsa:a.isSome=true:=zai (hla i (by omega))
   have hd:=orI_drop (l:=l) (i:=i) (by omega)
   repeat refine c_r ?_
   refine rq ?_;intro gd K hgd hK;simp (disch:=first|omega|assumption|rfl) only[go_sem,h8,h6,hla,List.getElem_map];refine hK _ _ ?_;clear hK hgd;clear K gd
   repeat refine c_r ?_
   refine rg1 h3 ?_
   repeat refine c_r ?_
   refine wc0 ?_ ?_
   ·intro h
    simp only[Bool.not_eq_true',decide_eq_false_iff_not]at h
    repeat (first|refine c_r ?_|refine rg0 ?_)
    refine rt0 Tryz.ntmps65 ?_
    exact⟨by rw[hinv,hd,if_neg h],rfl⟩
   ·intro h
    simp only[Bool.not_eq_false',decide_eq_true_eq]at h
    repeat refine c_r ?_
    refine rg1 h8 ?_
    repeat refine c_r ?_
    exact⟨m - 1,by omega,rfl,rfl,i+1,by omega,by simp only[go_sem];push_cast;rfl,(vq1 h7),(vq1 h6),(vq1 h3),by rw[hinv,hd,if_pos h]⟩
  ·intro hge
   simp only[decide_eq_false_iff_not]at hge
   repeat (first|refine c_r ?_| (refine zd4 (by rfl) ?_;intro gd K hgd hK;simp (disch:=first|omega|assumption|rfl) only[go_sem,h3];refine hK _ _ ?_;clear hK hgd;clear K gd))
   refine rt0 Tryz.ntmps65 ?_
   refine⟨?_,rfl⟩
   rw[hinv,List.drop_of_length_le (by omega)];rfl
theorem zmY(a b:Nm)(h:a=[]∨b=[]):cmpR a b=cmpI a.length b.length:=by
 rw[zka a b h];unfold sgn cmpI
 by_cases h1:(a.length:Int)<b.length
 ·rw[if_pos (by omega),if_pos h1]
 ·by_cases h2:(b.length:Int)<a.length
  ·rw[if_neg (by omega),if_pos (by omega),if_neg h1,if_pos h2]
  ·rw[if_neg (by omega),if_neg (by omega),if_neg h1,if_neg h2]
theorem zgl(w:World)(a b:Value)(xs ys:Nm)(ha:Row w a (xs.map vs))(hb:Row w b (ys.map vs))(hx:LB xs)(hy:LB ys)(hxl:xs.length≤9000000000000000000)(hyl:ys.length≤9000000000000000000):
  Fn Tryz.prog 66 #[a,b] w (fun v w'=>v=vi (cmpN (zaB xs) (zaB ys))∧Ext w w'):=by
 obtain⟨a,ca,rfl,hca,hla⟩:=ha
 obtain⟨b,cb,rfl,hcb,hlb⟩:=hb
 simp only[List.length_map]at*
 obtain⟨k,hk⟩:∃k,min xs.length ys.length=k:=⟨_,rfl⟩
 have hmin:min (xs.length:Int) (ys.length:Int)=(k:Int):=by omega
 refine enter Tryz.func66 Tryz.ntmps66 rfl rfl ?_
 repeat refine c_r ?_
 refine rg0 ?_
 repeat refine c_r ?_
 refine rq ?_;intro gd K hgd hK
 try simp only[go_sem]
 refine zfN (k:= .i64) (a:=xs.length) (b:=ys.length) (vq0) (vq0) ?_
 rw[hmin]
 try simp only[go_sem]
 refine hK _ _ ?_;clear hK hgd;clear K;try clear gd
 repeat refine c_r ?_
 refine zaD (fun m σ ds v=>ds=[]∧∃i:Nat,i+m=k∧σ 12=vi i∧σ 11=vi k∧σ 0= .slice a xs.length ca∧σ 1= .slice b ys.length cb∧Ext w v∧cmpN (zaB xs) (zaB ys)=cmpR ((zaB xs).reverse.drop i) ((zaB ys).reverse.drop i)) k ?_ ?_
 ·refine⟨rfl,0,by omega,?_,?_,?_,?_,Keep.refl _ _,by simp[cmpN]⟩
  ·simp only[go_sem];rfl
  ·simp only[go_sem]
  ·simp only[go_sem]
  ·simp only[go_sem]
 ·rintro m σ ds v ⟨rfl,i,him,h12,h11,h0,h1,hE,hinv⟩
  repeat refine c_r ?_
  refine rq ?_;intro gd K hgd hK;simp (disch:=first|omega|assumption|rfl) only[go_sem,h12,h11];refine hK _ _ ?_;clear hK hgd;clear K gd
  repeat refine c_r ?_
  refine wc0 ?_ ?_
  ·intro hlt
   simp only[decide_eq_true_eq]at hlt
   have hsa:a.isSome=true:=zai (hla (xs.length - 1 - i) (by omega))
   have hsb:b.isSome=true:=zai (hlb (ys.length - 1 - i) (by omega))
   have e1:((xs.length:Int) - 1 - i).toNat=xs.length - 1 - i:=by omega
   have e2:((ys.length:Int) - 1 - i).toNat=ys.length - 1 - i:=by omega
   repeat refine c_r ?_
   refine rg1 h12 ?_
   repeat refine c_r ?_
   refine zaF (fun _=>false) [(0,true),(1,true),(2,true),(3,true),(4,true),(5,true),(6,true),(7,true),(8,true),(9,true),(10,true),(11,true),(12,true),(13,true),(14,true),(15,true),(16,false),(17,true)] NoS mixed (by kernel_rfl) ?_;intro gd K x hgd hx hxe hK;clear hxe
   have hla':=fun j h=>zab (hE.trans ‹Keep NoS v x›) (hla j h)
   have hlb':=fun j h=>zab (hE.trans ‹Keep NoS v x›) (hlb j h)
   simp (disch:=first|omega|assumption|rfl) only[go_sem,h12,h0,h1,e1,e2,hla',hlb',List.getElem_map]
   refine Fn.mono (zjq _ _ _ (LB.get ‹LB xs› _) (LB.get ‹LB ys› _)) ?_
   rintro _ x1 ⟨rfl,hx1⟩
   refine⟨.inr hx1,?_⟩
   simp (disch:=first|omega|assumption|rfl) only[go_sem]
   refine hK _ _ ?_;clear hK hgd;clear K;try clear gd
   have hst:=ziB (a:=(zaB xs).reverse) (b:=(zaB ys).reverse) (i:=i) (by simp[za9];omega) (by simp[za9];omega)
   have g1:(zaB xs).reverse[i]'(by simp[za9];omega)=zaI (xs[xs.length - 1 - i]'(by omega)):=by
    rw[List.getElem_reverse];simp[zaB]
   have g2:(zaB ys).reverse[i]'(by simp[za9];omega)=zaI (ys[ys.length - 1 - i]'(by omega)):=by
    rw[List.getElem_reverse];simp[zaB]
   rw[g1,g2]at hst
   repeat refine c_r ?_
   refine rg0 ?_
   repeat refine c_r ?_
   refine wc0 ?_ ?_
   ·intro hne
    simp only[Bool.not_eq_true',decide_eq_false_iff_not]at hne
    repeat (first|refine c_r ?_|refine rg0 ?_)
    refine rt0 Tryz.ntmps66 ?_
    refine⟨by rw[hinv,hst,if_neg hne],(hE.trans ‹Keep NoS v x›).trans hx1⟩
   ·intro heq
    simp only[Bool.not_eq_false',decide_eq_true_eq]at heq
    repeat refine c_r ?_
    refine rg1 h12 ?_
    repeat refine c_r ?_
    exact⟨m - 1,by omega,rfl,i+1,by omega,by simp only[go_sem];push_cast;rfl,by simp only[go_sem,h11],(vq1 h0),(vq1 h1),(hE.trans ‹Keep NoS v x›).trans hx1,by rw[hinv,hst,if_pos heq]⟩
  ·intro hge
   simp only[decide_eq_false_iff_not]at hge
   repeat refine c_r ?_
   refine rq ?_;intro gd K hgd hK
   try simp (disch:=first|omega|assumption|rfl) only[go_sem,h0,h1]
   refine Fn.mono (N_int.Compare_ok _ _ _) ?_
   rintro _ w2 ⟨rfl,rfl⟩
   try simp only[go_sem]
   refine hK _ _ ?_;clear hK hgd;clear K;try clear gd
   repeat refine c_r ?_
   refine rt0 Tryz.ntmps66 ?_
   refine⟨?_,hE⟩
   have l1:((zaB xs).reverse.drop i).length=xs.length - i:=by simp[za9]
   have l2:((zaB ys).reverse.drop i).length=ys.length - i:=by simp[za9]
   rw[hinv,zmY _ _ (by
    rcases Nat.lt_or_ge i xs.length with h|h
    ·exact .inr (List.length_eq_zero_iff.1 (by omega))
    ·exact .inl (List.length_eq_zero_iff.1 (by omega))),l1,l2]
   unfold cmpI
   by_cases h1':(xs.length:Int)<ys.length
   ·rw[if_pos h1',if_pos (by omega)]
   ·by_cases h2':(ys.length:Int)<xs.length
    ·rw[if_neg h1',if_pos h2',if_neg (by omega),if_pos (by omega)]
    ·rw[if_neg h1',if_neg h2',if_neg (by omega),if_neg (by omega)]
end Go.Proofs.YtkpdfhbpdkifoaaGreatDoor
namespace Go.Proofs.YtkpdfhbpdkifoaaGreatDoor.C_cn
open Go Go.Proofs.YtkpdfhbpdkifoaaGreatDoor
set_option maxRecDepth 10000
def RowR{α:Type}(Rl:World→α→Value→Prop)(w:World)(v:Value)(xs:List α):Prop:=∃us,Row w v us∧us.length=xs.length∧∀i (h:i<us.length) (h':i<xs.length),Rl w xs[i] us[i]
theorem CompareFunc_ok{α:Type}{Rl:World→α→Value→Prop}(hR:∀w x a v,Ext w x→Rl w a v→Rl x a v){cf:α→α→Int}{U:α→Prop}{g:FuncId}(hcal:zaj Tryz.prog g=true){w:World}
  (hcall:∀A x y u v,Ext w A→U x→U y→Rl A x u→Rl A y v→Fn Tryz.prog g #[u,v] A (fun r B=>r=vi (cf x y)∧Ext A B)) {a b:Value} {xs ys:List α} (ha:RowR Rl w a xs) (hb:RowR Rl w b ys) (hUx:∀x∈xs,U x) (hUy:∀y∈ys,U y) (hxl:xs.length≤1000000000000000) (hyl:ys.length≤1000000000000000):
  Fn Tryz.prog 141 #[a,b,.func (.func g) #[] #[]] w (fun v w'=>v=vi (lexC cf xs ys)∧Ext w w'):=by
 obtain⟨us,⟨a,ca,rfl,hca,hla⟩,hul,hu⟩:=ha
 obtain⟨vs',⟨b,cb,rfl,hcb,hlb⟩,hvl,hv⟩:=hb
 refine enter Tryz.func141 Tryz.ntmps141 rfl rfl ?_
 repeat refine c_r ?_
 refine rg0 ?_
 repeat refine c_r ?_
 refine rg0 ?_
 repeat refine c_r ?_
 refine zaD (fun m σ ds v=>ds=[]∧∃i:Nat,i+m=us.length∧i≤vs'.length∧σ 13=vi i∧σ 12=vi us.length∧σ 11= .slice a us.length ca∧σ 0= .slice a us.length ca∧σ 1= .slice b vs'.length cb∧σ 2= .func (.func g) #[] #[]∧Ext w v∧lexC cf xs ys=lexC cf (xs.drop i) (ys.drop i)) us.length ?_ ?_
 ·refine⟨rfl,0,by omega,by omega,?_,?_,?_,?_,?_,?_,Keep.refl _ _,by simp⟩
  ·simp only[go_sem];rfl
  ·simp only[go_sem]
  ·simp only[go_sem]
  ·simp only[go_sem]
  ·simp only[go_sem]
  ·simp only[go_sem]
 ·rintro m σ ds v ⟨rfl,i,him,hiv,h13,h12,h11,h0,h1,h2,hE,hinv⟩
  repeat refine c_r ?_
  refine rg2 h13 h12 ?_
  repeat refine c_r ?_
  refine wc0 ?_ ?_
  ·intro hlt
   simp only[decide_eq_true_eq]at hlt
   have hsa:a.isSome=true:=zai (hla i (by omega))
   have hla':=fun j h=>zab hE (hla j h)
   have hlb':=fun j h=>zab hE (hlb j h)
   repeat refine c_r ?_
   refine rq ?_;intro gd K hgd hK;simp (disch:=first|omega|assumption|rfl) only[go_sem,h13,h11,hla'];refine hK _ _ ?_;clear hK hgd;clear K gd
   repeat refine c_r ?_
   refine rg1 h1 ?_
   repeat refine c_r ?_
   refine wc0 ?_ ?_
   ·intro hge
    simp only[decide_eq_true_eq]at hge
    repeat (first|refine c_r ?_|refine rg0 ?_)
    refine rt0 Tryz.ntmps141 ?_
    refine⟨?_,hE⟩
    have e:ys.drop i=[]:=List.drop_of_length_le (by omega)
    rw[hinv,zcW (.inr e),e]
    have l1:(xs.drop i).length=xs.length - i:=by simp
    unfold cmpI
    rw[l1,List.length_nil,if_neg (by omega),if_pos (by omega)]
   ·intro hlt2
    simp only[decide_eq_false_iff_not]at hlt2
    have hsb:b.isSome=true:=zai (hlb i (by omega))
    have hst:=zcD (cf:=cf) (a:=xs) (b:=ys) (i:=i) (by omega) (by omega)
    repeat refine c_r ?_
    refine rg2 h1 hlb' ?_
    repeat refine c_r ?_
    refine rq ?_;intro gd K hgd hK
    try simp (disch:=first|omega|assumption|rfl) only[go_sem,h2]
    refine zds hcal (Fn.mono (hcall v xs[i] ys[i] _ _ hE (hUx _ (List.getElem_mem _)) (hUy _ (List.getElem_mem _)) (hR _ _ _ _ hE (hu i (by omega) (by omega))) (hR _ _ _ _ hE (hv i (by omega) (by omega)))) ?_)
    rintro _ w1 ⟨rfl,hE1⟩
    try simp only[go_sem]
    refine hK _ _ ?_;clear hK hgd;clear K;try clear gd
    repeat refine c_r ?_
    refine rg0 ?_
    repeat refine c_r ?_
    refine wc0 ?_ ?_
    ·intro hne
     simp only[Bool.not_eq_true',decide_eq_false_iff_not]at hne
     repeat (first|refine c_r ?_|refine rg0 ?_)
     refine rt0 Tryz.ntmps141 ?_
     exact⟨by rw[hinv,hst,if_neg hne],hE.trans hE1⟩
    ·intro heq
     simp only[Bool.not_eq_false',decide_eq_true_eq]at heq
     repeat refine c_r ?_
     refine rg1 h13 ?_
     repeat refine c_r ?_
     exact⟨m - 1,by omega,rfl,i+1,by omega,by omega,by simp only[go_sem];push_cast;rfl,(vq1 h12),by simp only[go_sem,h11],(vq1 h0),(vq1 h1),(vq1 h2),hE.trans hE1,by rw[hinv,hst,if_pos heq]⟩
  ·intro hge
   simp only[decide_eq_false_iff_not]at hge
   have e:xs.drop i=[]:=List.drop_of_length_le (by omega)
   have l2:(ys.drop i).length=ys.length - i:=by simp
   have hval:lexC cf xs ys=cmpI 0 (ys.length - i:Nat):=by rw[hinv,zcW (.inl e),e,l2];rfl
   repeat refine c_r ?_
   refine rg2 h0 h1 ?_
   repeat refine c_r ?_
   refine wc0 ?_ ?_
   ·intro h
    simp only[decide_eq_true_eq]at h
    repeat (first|refine c_r ?_|refine rg0 ?_)
    refine rt0 Tryz.ntmps141 ?_
    exact⟨by rw[hval,cmpI,if_pos (by omega)],hE⟩
   ·intro h
    simp only[decide_eq_false_iff_not]at h
    repeat (first|refine c_r ?_|refine rg0 ?_)
    refine rt0 Tryz.ntmps141 ?_
    exact⟨by rw[hval,cmpI,if_neg (by omega),if_neg (by omega)],hE⟩
end Go.Proofs.YtkpdfhbpdkifoaaGreatDoor.C_cn
namespace Go.Proofs.YtkpdfhbpdkifoaaGreatDoor.C_cu
open Go Go.Proofs.YtkpdfhbpdkifoaaGreatDoor
set_option maxRecDepth 10000
def RowR{α:Type}(Rl:World→α→Value→Prop)(w:World)(v:Value)(xs:List α):Prop:=∃us,Row w v us∧us.length=xs.length∧∀i (h:i<us.length) (h':i<xs.length),Rl w xs[i] us[i]
theorem CompareFunc_ok{α:Type}{Rl:World→α→Value→Prop}(hR:∀w x a v,Ext w x→Rl w a v→Rl x a v){cf:α→α→Int}{U:α→Prop}{g:FuncId}(hcal:zaj Tryz.prog g=true){w:World}
  (hcall:∀A x y u v,Ext w A→U x→U y→Rl A x u→Rl A y v→Fn Tryz.prog g #[u,v] A (fun r B=>r=vi (cf x y)∧Ext A B)) {a b:Value} {xs ys:List α} (ha:RowR Rl w a xs) (hb:RowR Rl w b ys) (hUx:∀x∈xs,U x) (hUy:∀y∈ys,U y) (hxl:xs.length≤1000000000000000) (hyl:ys.length≤1000000000000000):
  Fn Tryz.prog 142 #[a,b,.func (.func g) #[] #[]] w (fun v w'=>v=vi (lexC cf xs ys)∧Ext w w'):=by
 obtain⟨us,⟨a,ca,rfl,hca,hla⟩,hul,hu⟩:=ha
 obtain⟨vs',⟨b,cb,rfl,hcb,hlb⟩,hvl,hv⟩:=hb
 refine enter Tryz.func142 Tryz.ntmps142 rfl rfl ?_
 repeat refine c_r ?_
 refine rg0 ?_
 repeat refine c_r ?_
 refine rg0 ?_
 repeat refine c_r ?_
 refine zaD (fun m σ ds v=>ds=[]∧∃i:Nat,i+m=us.length∧i≤vs'.length∧σ 13=vi i∧σ 12=vi us.length∧σ 11= .slice a us.length ca∧σ 0= .slice a us.length ca∧σ 1= .slice b vs'.length cb∧σ 2= .func (.func g) #[] #[]∧Ext w v∧lexC cf xs ys=lexC cf (xs.drop i) (ys.drop i)) us.length ?_ ?_
 ·refine⟨rfl,0,by omega,by omega,?_,?_,?_,?_,?_,?_,Keep.refl _ _,by simp⟩
  ·simp only[go_sem];rfl
  ·simp only[go_sem]
  ·simp only[go_sem]
  ·simp only[go_sem]
  ·simp only[go_sem]
  ·simp only[go_sem]
 ·rintro m σ ds v ⟨rfl,i,him,hiv,h13,h12,h11,h0,h1,h2,hE,hinv⟩
  repeat refine c_r ?_
  refine rg2 h13 h12 ?_
  repeat refine c_r ?_
  refine wc0 ?_ ?_
  ·intro hlt
   simp only[decide_eq_true_eq]at hlt
   have hsa:a.isSome=true:=zai (hla i (by omega))
   have hla':=fun j h=>zab hE (hla j h)
   have hlb':=fun j h=>zab hE (hlb j h)
   repeat refine c_r ?_
   refine rq ?_;intro gd K hgd hK;simp (disch:=first|omega|assumption|rfl) only[go_sem,h13,h11,hla'];refine hK _ _ ?_;clear hK hgd;clear K gd
   repeat refine c_r ?_
   refine rg1 h1 ?_
   repeat refine c_r ?_
   refine wc0 ?_ ?_
   ·intro hge
    simp only[decide_eq_true_eq]at hge
    repeat (first|refine c_r ?_|refine rg0 ?_)
    refine rt0 Tryz.ntmps142 ?_
    refine⟨?_,hE⟩
    have e:ys.drop i=[]:=List.drop_of_length_le (by omega)
    rw[hinv,zcW (.inr e),e]
    have l1:(xs.drop i).length=xs.length - i:=by simp
    unfold cmpI
    rw[l1,List.length_nil,if_neg (by omega),if_pos (by omega)]
   ·intro hlt2
    simp only[decide_eq_false_iff_not]at hlt2
    have hsb:b.isSome=true:=zai (hlb i (by omega))
    have hst:=zcD (cf:=cf) (a:=xs) (b:=ys) (i:=i) (by omega) (by omega)
    repeat refine c_r ?_
    refine rg2 h1 hlb' ?_
    repeat refine c_r ?_
    refine rq ?_;intro gd K hgd hK
    try simp (disch:=first|omega|assumption|rfl) only[go_sem,h2]
    refine zds hcal (Fn.mono (hcall v xs[i] ys[i] _ _ hE (hUx _ (List.getElem_mem _)) (hUy _ (List.getElem_mem _)) (hR _ _ _ _ hE (hu i (by omega) (by omega))) (hR _ _ _ _ hE (hv i (by omega) (by omega)))) ?_)
    rintro _ w1 ⟨rfl,hE1⟩
    try simp only[go_sem]
    refine hK _ _ ?_;clear hK hgd;clear K;try clear gd
    repeat refine c_r ?_
    refine rg0 ?_
    repeat refine c_r ?_
    refine wc0 ?_ ?_
    ·intro hne
     simp only[Bool.not_eq_true',decide_eq_false_iff_not]at hne
     repeat (first|refine c_r ?_|refine rg0 ?_)
     refine rt0 Tryz.ntmps142 ?_
     exact⟨by rw[hinv,hst,if_neg hne],hE.trans hE1⟩
    ·intro heq
     simp only[Bool.not_eq_false',decide_eq_true_eq]at heq
     repeat refine c_r ?_
     refine rg1 h13 ?_
     repeat refine c_r ?_
     exact⟨m - 1,by omega,rfl,i+1,by omega,by omega,by simp only[go_sem];push_cast;rfl,(vq1 h12),by simp only[go_sem,h11],(vq1 h0),(vq1 h1),(vq1 h2),hE.trans hE1,by rw[hinv,hst,if_pos heq]⟩
  ·intro hge
   simp only[decide_eq_false_iff_not]at hge
   have e:xs.drop i=[]:=List.drop_of_length_le (by omega)
   have l2:(ys.drop i).length=ys.length - i:=by simp
   have hval:lexC cf xs ys=cmpI 0 (ys.length - i:Nat):=by rw[hinv,zcW (.inl e),e,l2];rfl
   repeat refine c_r ?_
   refine rg2 h0 h1 ?_
   repeat refine c_r ?_
   refine wc0 ?_ ?_
   ·intro h
    simp only[decide_eq_true_eq]at h
    repeat (first|refine c_r ?_|refine rg0 ?_)
    refine rt0 Tryz.ntmps142 ?_
    exact⟨by rw[hval,cmpI,if_pos (by omega)],hE⟩
   ·intro h
    simp only[decide_eq_false_iff_not]at h
    repeat (first|refine c_r ?_|refine rg0 ?_)
    refine rt0 Tryz.ntmps142 ?_
    exact⟨by rw[hval,cmpI,if_neg (by omega),if_neg (by omega)],hE⟩
end Go.Proofs.YtkpdfhbpdkifoaaGreatDoor.C_cu
namespace Go.Proofs.YtkpdfhbpdkifoaaGreatDoor.C_ct
open Go Go.Proofs.YtkpdfhbpdkifoaaGreatDoor
set_option maxRecDepth 10000
def RowR{α:Type}(Rl:World→α→Value→Prop)(w:World)(v:Value)(xs:List α):Prop:=∃us,Row w v us∧us.length=xs.length∧∀i (h:i<us.length) (h':i<xs.length),Rl w xs[i] us[i]
theorem CompareFunc_ok{α:Type}{Rl:World→α→Value→Prop}(hR:∀w x a v,Ext w x→Rl w a v→Rl x a v){cf:α→α→Int}{U:α→Prop}{g:FuncId}(hcal:zaj Tryz.prog g=true){w:World}
  (hcall:∀A x y u v,Ext w A→U x→U y→Rl A x u→Rl A y v→Fn Tryz.prog g #[u,v] A (fun r B=>r=vi (cf x y)∧Ext A B)) {a b:Value} {xs ys:List α} (ha:RowR Rl w a xs) (hb:RowR Rl w b ys) (hUx:∀x∈xs,U x) (hUy:∀y∈ys,U y) (hxl:xs.length≤1000000000000000) (hyl:ys.length≤1000000000000000):
  Fn Tryz.prog 144 #[a,b,.func (.func g) #[] #[]] w (fun v w'=>v=vi (lexC cf xs ys)∧Ext w w'):=by
 obtain⟨us,⟨a,ca,rfl,hca,hla⟩,hul,hu⟩:=ha
 obtain⟨vs',⟨b,cb,rfl,hcb,hlb⟩,hvl,hv⟩:=hb
 refine enter Tryz.func144 Tryz.ntmps144 rfl rfl ?_
 repeat refine c_r ?_
 refine rg0 ?_
 repeat refine c_r ?_
 refine rg0 ?_
 repeat refine c_r ?_
 refine zaD (fun m σ ds v=>ds=[]∧∃i:Nat,i+m=us.length∧i≤vs'.length∧σ 13=vi i∧σ 12=vi us.length∧σ 11= .slice a us.length ca∧σ 0= .slice a us.length ca∧σ 1= .slice b vs'.length cb∧σ 2= .func (.func g) #[] #[]∧Ext w v∧lexC cf xs ys=lexC cf (xs.drop i) (ys.drop i)) us.length ?_ ?_
 ·refine⟨rfl,0,by omega,by omega,?_,?_,?_,?_,?_,?_,Keep.refl _ _,by simp⟩
  ·simp only[go_sem];rfl
  ·simp only[go_sem]
  ·simp only[go_sem]
  ·simp only[go_sem]
  ·simp only[go_sem]
  ·simp only[go_sem]
 ·rintro m σ ds v ⟨rfl,i,him,hiv,h13,h12,h11,h0,h1,h2,hE,hinv⟩
  repeat refine c_r ?_
  refine rg2 h13 h12 ?_
  repeat refine c_r ?_
  refine wc0 ?_ ?_
  ·intro hlt
   simp only[decide_eq_true_eq]at hlt
   have hsa:a.isSome=true:=zai (hla i (by omega))
   have hla':=fun j h=>zab hE (hla j h)
   have hlb':=fun j h=>zab hE (hlb j h)
   repeat refine c_r ?_
   refine rq ?_;intro gd K hgd hK;simp (disch:=first|omega|assumption|rfl) only[go_sem,h13,h11,hla'];refine hK _ _ ?_;clear hK hgd;clear K gd
   repeat refine c_r ?_
   refine rg1 h1 ?_
   repeat refine c_r ?_
   refine wc0 ?_ ?_
   ·intro hge
    simp only[decide_eq_true_eq]at hge
    repeat (first|refine c_r ?_|refine rg0 ?_)
    refine rt0 Tryz.ntmps144 ?_
    refine⟨?_,hE⟩
    have e:ys.drop i=[]:=List.drop_of_length_le (by omega)
    rw[hinv,zcW (.inr e),e]
    have l1:(xs.drop i).length=xs.length - i:=by simp
    unfold cmpI
    rw[l1,List.length_nil,if_neg (by omega),if_pos (by omega)]
   ·intro hlt2
    simp only[decide_eq_false_iff_not]at hlt2
    have hsb:b.isSome=true:=zai (hlb i (by omega))
    have hst:=zcD (cf:=cf) (a:=xs) (b:=ys) (i:=i) (by omega) (by omega)
    repeat refine c_r ?_
    refine rg2 h1 hlb' ?_
    repeat refine c_r ?_
    refine rq ?_;intro gd K hgd hK
    try simp (disch:=first|omega|assumption|rfl) only[go_sem,h2]
    refine zds hcal (Fn.mono (hcall v xs[i] ys[i] _ _ hE (hUx _ (List.getElem_mem _)) (hUy _ (List.getElem_mem _)) (hR _ _ _ _ hE (hu i (by omega) (by omega))) (hR _ _ _ _ hE (hv i (by omega) (by omega)))) ?_)
    rintro _ w1 ⟨rfl,hE1⟩
    try simp only[go_sem]
    refine hK _ _ ?_;clear hK hgd;clear K;try clear gd
    repeat refine c_r ?_
    refine rg0 ?_
    repeat refine c_r ?_
    refine wc0 ?_ ?_
    ·intro hne
     simp only[Bool.not_eq_true',decide_eq_false_iff_not]at hne
     repeat (first|refine c_r ?_|refine rg0 ?_)
     refine rt0 Tryz.ntmps144 ?_
     exact⟨by rw[hinv,hst,if_neg hne],hE.trans hE1⟩
    ·intro heq
     simp only[Bool.not_eq_false',decide_eq_true_eq]at heq
     repeat refine c_r ?_
     refine rg1 h13 ?_
     repeat refine c_r ?_
     exact⟨m - 1,by omega,rfl,i+1,by omega,by omega,by simp only[go_sem];push_cast;rfl,(vq1 h12),by simp only[go_sem,h11],(vq1 h0),(vq1 h1),(vq1 h2),hE.trans hE1,by rw[hinv,hst,if_pos heq]⟩
  ·intro hge
   simp only[decide_eq_false_iff_not]at hge
   have e:xs.drop i=[]:=List.drop_of_length_le (by omega)
   have l2:(ys.drop i).length=ys.length - i:=by simp
   have hval:lexC cf xs ys=cmpI 0 (ys.length - i:Nat):=by rw[hinv,zcW (.inl e),e,l2];rfl
   repeat refine c_r ?_
   refine rg2 h0 h1 ?_
   repeat refine c_r ?_
   refine wc0 ?_ ?_
   ·intro h
    simp only[decide_eq_true_eq]at h
    repeat (first|refine c_r ?_|refine rg0 ?_)
    refine rt0 Tryz.ntmps144 ?_
    exact⟨by rw[hval,cmpI,if_pos (by omega)],hE⟩
   ·intro h
    simp only[decide_eq_false_iff_not]at h
    repeat (first|refine c_r ?_|refine rg0 ?_)
    refine rt0 Tryz.ntmps144 ?_
    exact⟨by rw[hval,cmpI,if_neg (by omega),if_neg (by omega)],hE⟩
end Go.Proofs.YtkpdfhbpdkifoaaGreatDoor.C_ct
namespace Go.Proofs.YtkpdfhbpdkifoaaGreatDoor.N_uint32
open Go Go.Proofs.YtkpdfhbpdkifoaaGreatDoor
set_option maxRecDepth 10000
theorem zet(w:World)(a:Int):Fn Tryz.prog 143 #[.int .u32 a] w (fun v w'=>v= .bool false∧w'=w):=by
 refine enter Tryz.func143 Tryz.ntmps143 rfl rfl ?_
 repeat (first|refine c_r ?_| (refine zd4 (by rfl) ?_;intro gd K hgd hK;simp (disch:=first|omega|assumption|rfl) only[go_sem,decide_true];refine hK _ _ ?_;clear hK hgd;clear K gd))
 refine rt0 Tryz.ntmps143 ?_
 exact⟨rfl,rfl⟩
theorem Compare_ok(w:World)(a b:Int):Fn Tryz.prog 104 #[.int .u32 a,.int .u32 b] w (fun v w'=>v=vi (cmpI a b)∧w'=w):=by
 refine enter Tryz.func104 Tryz.ntmps104 rfl rfl ?_
 repeat refine c_r ?_
 refine rg0 ?_
 repeat refine c_r ?_
 refine rq ?_;intro gd K hgd hK
 try simp only[go_sem]
 refine Fn.mono (zet _ _) ?_
 rintro _ _ ⟨rfl,rfl⟩
 try simp only[go_sem]
 refine hK _ _ ?_;clear hK hgd;clear K;try clear gd
 repeat refine c_r ?_
 refine rq ?_;intro gd K hgd hK
 try simp only[go_sem]
 refine Fn.mono (zet _ _) ?_
 rintro _ _ ⟨rfl,rfl⟩
 try simp only[go_sem]
 refine hK _ _ ?_;clear hK hgd;clear K;try clear gd
 repeat refine c_r ?_
 refine rg0 ?_
 repeat refine c_r ?_
 refine wc0 ?_ ?_
 ·intro h;cases h
 intro _
 repeat refine c_r ?_
 refine rg0 ?_
 repeat refine c_r ?_
 refine wc0 ?_ ?_
 ·intro h;cases h
 intro _
 repeat refine c_r ?_
 refine rg0 ?_
 repeat refine c_r ?_
 refine wc0 ?_ ?_
 ·intro h
  simp only[decide_eq_true_eq]at h
  repeat (first|refine c_r ?_|refine rg0 ?_)
  refine rt0 Tryz.ntmps104 ?_
  exact⟨by rw[cmpI,if_pos h],rfl⟩
 intro h
 simp only[decide_eq_false_iff_not]at h
 repeat (first|refine c_r ?_|refine rg0 ?_)
 refine wc0 ?_ ?_
 ·intro h2
  simp only[decide_eq_true_eq]at h2
  repeat (first|refine c_r ?_|refine rg0 ?_)
  refine rt0 Tryz.ntmps104 ?_
  exact⟨by rw[cmpI,if_neg h,if_pos h2],rfl⟩
 intro h2
 simp only[decide_eq_false_iff_not]at h2
 repeat (first|refine c_r ?_|refine rg0 ?_)
 refine rt0 Tryz.ntmps104 ?_
 exact⟨by rw[cmpI,if_neg h,if_neg h2],rfl⟩
end Go.Proofs.YtkpdfhbpdkifoaaGreatDoor.N_uint32
namespace Go.Proofs.YtkpdfhbpdkifoaaGreatDoor
open Go
set_option maxRecDepth 10000
theorem zeq{P:Program}{w:World}:∀(l:List UInt8) (a:Addr) (acc:ByteArray),(∀j (h:j<l.length),w.cell? (a.add j)=some (zao l[j]))→(Extern.Bytes.loadBytes a l.length acc).run P w= .ok ⟨acc.data++l.toArray⟩ w
 | [],a,acc,_=>by simp[Extern.Bytes.loadBytes,Sem.run]
 |c::l,a,acc,h=>by
  have h0:=h 0 (by simp)
  have ha0:a.add 0=a:=by simp[Addr.add]
  rw[ha0]at h0
  have ih:=zeq (P:=P) l (a.add 1) (acc.push c) (fun j hj=>by
   have:=h (j+1) (by simp;omega)
   rw[zdz,Nat.add_comm 1 j]
   simpa using this)
  have e:(load a).run P w= .ok (zao c) w:=by simp[load,Sem.run,h0]
  simp only[List.length_cons,Extern.Bytes.loadBytes,Sem.run_bind,e,Result.andThen_ok]
  show(Extern.Bytes.loadBytes (a.add 1) l.length (acc.push (((c.toNat:Nat):Int).toNat.toUInt8))).run P w=_
  have e2:((c.toNat:Nat):Int).toNat.toUInt8=c:=by simp
  rw[e2,ih]
  simp[ByteArray.push]
theorem zf8{P:Program}{w:World}{v:Value}{l:List UInt8}(h:Row w v (l.map zao)):(Extern.Bytes.bytesOf v).run P w= .ok ⟨l.toArray⟩ w:=by
 obtain⟨a,c,rfl,_,hl⟩:=h
 simp only[List.length_map]at hl ⊢
 cases a with
 |none=>
  cases l with
  |nil=>rfl
  |cons c l=>have:=hl 0 (by simp);simp[zad,adr]at this
 |some a=>
  have:=zeq (P:=P) (w:=w) l a .empty (fun j hj=>by
   have:=hl j hj
   simpa [zad,adr] using this)
  simpa [Extern.Bytes.bytesOf] using this
theorem zjv(w:World)(a b:Value)(xs ys:List UInt8)(ha:Row w a (xs.map zao))(hb:Row w b (ys.map zao)):Fn Tryz.prog 107 #[a,b] w (fun v w'=>v=vi (cmpL xs ys)∧w'=w):=by
 have h1:=zf8 (P:=Tryz.prog) ha
 have h2:=zf8 (P:=Tryz.prog) hb
 refine enter Tryz.func107 Tryz.ntmps107 rfl rfl ?_
 repeat refine c_r ?_
 refine rg0 ?_
 repeat refine c_r ?_
 refine rq ?_;intro gd K hgd hK
 try simp only[go_sem]
 refine⟨vi (cmpL xs ys),w,?_,?_⟩
 ·rw[run_callFunc_extern Tryz.func146 (by kernel_rfl) (by kernel_rfl) (by kernel_rfl) (e:=Extern.BytealgCompare.compare) (by kernel_rfl)]
  have:(Extern.BytealgCompare.compare #[a,b]).run Tryz.prog w= .ok (vi (cmpL xs ys)) w:=by
   show(do pure (goInt (Extern.BytealgCompare.cmp (←Extern.Bytes.bytesOf a) (←Extern.Bytes.bytesOf b))):Sem Value).run Tryz.prog w=_
   simp only[Sem.run_bind,h1,h2,Result.andThen_ok,Sem.run_pure]
   rw[Lib.cmp_eq]
   rfl
  rw[this];rfl
 try simp only[go_sem]
 refine hK _ _ ?_;clear hK hgd;clear K;try clear gd
 repeat refine c_r ?_
 refine rt0 Tryz.ntmps107 ?_
 exact⟨rfl,rfl⟩
def zar(w:World)(p:Option Addr)(k:Nat):Option (List Value):=p.bind fun a=>zaQ w a 0 k
theorem zmr{P:Program}{w:World}{t:TypeId}{p:Option Addr}(hA:tyA P t=true):ldA P w t p=(zar w p (tyS P t)).map fun l=> .agg l.toArray:=by
 cases p with
 |none=>rfl
 |some a=>simp[ldA,ldP,ldV,hA,zar]
theorem ze5{w:World}{b o:Nat}{cur:Array Value}{e:TypeId}{fr:Nat×Nat}(h:w.heap[b]? =some (.cells cur e fr)):∀(k i:Nat),o+i+k≤cur.size→
  zaQ w ⟨b,o,Option.none⟩ i k=some ((cur.toList.drop (o+i)).take k)
 |0,_,_=>by simp[zaQ]
 |k+1,i,hk=>by
  unfold zaQ
  rw[zfv,zb3 h,ze5 h k (i+1) (by omega)]
  have hlt:o+i<cur.size:=by omega
  have hd:=List.drop_eq_getElem_cons (l:=cur.toList) (i:=o+i) (by simpa using hlt)
  rw[Array.getElem?_eq_getElem hlt,hd,List.take_succ_cons]
  rfl
theorem zay{w:World}{b o k:Nat}{cur:Array Value}{e:TypeId}{fr:Nat×Nat}(h:w.heap[b]? =some (.cells cur e fr))(hk:o+k≤cur.size):
  zar w (some ⟨b,o,Option.none⟩) k=some ((cur.toList.drop o).take k):=by
 have:=ze5 (o:=o) h k 0 (by omega)
 simpa [zar] using this
theorem zf6{S:Nat→Prop}{w x:World}(hk:Keep S w x){p:Option Addr}(hS:offS S p){k:Nat}{l:List Value}(h:zar w p k=some l):zar x p k=some l:=by
 cases p with
 |none=>cases h
 |some a=>exact zd2 hk (hS a rfl) k 0 l h
theorem zah{w x:World}(hk:Ext w x){p:Option Addr}{k:Nat}{l:List Value}(h:zar w p k=some l):zar x p k=some l:=
 zf6 hk (by simp[offS,NoS]) h
theorem zav{w:World}{a:Option Addr}{j k:Nat}{l:List Value}(h:zar w (adr a j) k=some l):a.isSome=true:=by
 cases a with
 |none=>simp[zar,adr]at h
 |some a=>rfl
theorem zgQ{w:World}{a:Addr}:∀{k i:Nat} {l:List Value},zaQ w a i k=some l→l.length=k
 |0,_,l,h=>by simp[zaQ]at h;subst h;rfl
 |k+1,i,l,h=>by
  unfold zaQ at h
  split at h
  ·rename_i v l' h1 h2
   cases h
   simp[zgQ h2]
  ·cases h
theorem zk3{w:World}{p:Option Addr}{k:Nat}{l:List Value}(h:zar w p k=some l):l.length=k:=by
 cases p with
 |none=>cases h
 |some a=>exact zgQ h
theorem zeW{w:World}{a:Addr}:∀{k i:Nat} {l:List Value},zaQ w a i k=some l→∀(j:Nat) (h:j<l.length),w.cell? (a.add (i+j))=some l[j]
 |0,_,l,h,j,hj=>by simp[zaQ]at h;subst h;simp at hj
 |k+1,i,l,h,j,hj=>by
  unfold zaQ at h
  split at h
  ·rename_i v l' h1 h2
   cases h
   cases j with
   |zero=>exact h1
   |succ j=>
    have:=zeW h2 j (by simpa using hj)
    rw[show i+(j+1)=i+1+j from by omega]
    exact this
  ·cases h
theorem zaN{w:World}{p:Option Addr}{k:Nat}{l:List Value}(h:zar w p k=some l){j:Nat}(hj:j<l.length):zad w (adr p j)=some l[j]:=by
 cases p with
 |none=>cases h
 |some a=>
  have:=zeW (i:=0) h j hj
  rw[Nat.zero_add]at this
  exact this
def RowK(k:Nat)(w:World)(v:Value)(L:List (List Value)):Prop:=
 ∃a c,v= .slice a L.length c∧L.length≤c∧∀j (h:j<L.length),zar w (adr a (j*k)) k=some L[j]
theorem RowK.ext{k:Nat}{w x:World}{v:Value}{L:List (List Value)}(h:RowK k w v L)(hE:Ext w x):RowK k x v L:=by
 obtain⟨a,c,rfl,hc,hl⟩:=h
 exact⟨a,c,rfl,hc,fun j hj=>zah hE (hl j hj)⟩
/-! ### a block of elements -/
structure SD(k:Nat)(w:World)(b:Nat)(e:TypeId)(cap:Nat)(D:List (List Value)):Prop where
 lies:∃cur:Array Value,∃R:List Value,w.heap[b]? =some (.cells cur e (0,0))∧cur.toList=D.flatten++R∧cur.size=cap*k
 len:∀x∈D,x.length=k
 ones:∀x∈D,∀v∈x,one v=true
theorem zbG{k:Nat}:∀{D:List (List Value)},(∀x∈D,x.length=k)→D.flatten.length=D.length*k
 | [],_=>by simp
 |x::D,h=>by
  have h1:=h x (List.mem_cons_self ..)
  have h2:=zbG (D:=D) (fun y hy=>h y (List.mem_cons_of_mem _ hy))
  rw[List.flatten_cons,List.length_append,h1,h2,List.length_cons,Nat.succ_mul];omega
theorem zho{k:Nat}{D:List (List Value)}(h:∀x∈D,x.length=k){j:Nat}(hj:j<D.length):D.flatten=(D.take j).flatten++D[j]++(D.drop (j+1)).flatten∧(D.take j).flatten.length=j*k:=by
 constructor
 ·refine(congrArg List.flatten (zbs hj)).trans ?_
  rw[List.flatten_append,List.flatten_cons,List.append_assoc]
 ·rw[zbG (fun x hx=>h x (List.mem_of_mem_take hx)),List.length_take,Nat.min_eq_left (by omega)]
theorem SD.get{k:Nat}{w:World}{b:Nat}{e:TypeId}{cap:Nat}{D:List (List Value)}(h:SD k w b e cap D){j:Nat}(hj:j<D.length):zar w (some ⟨b,j*k,Option.none⟩) k=some D[j]:=by
 obtain⟨cur,R,hb,hc,hs⟩:=h.lies
 obtain⟨e1,e2⟩:=zho h.len hj
 have hk:=h.len D[j] (List.getElem_mem hj)
 have hlen:cur.toList.length=D.flatten.length+R.length:=by rw[hc];simp
 have e3:=congrArg List.length e1
 simp only[List.length_append]at e3
 have hsz:cur.toList.length=cur.size:=by simp
 rw[zay hb (by omega),hc,e1,List.append_assoc,List.append_assoc,List.drop_left' e2,List.take_left' hk]
theorem zef{b o:Nat}{e:TypeId}:∀(l:List Value) (i:Nat) (w:World) (A V B:List Value) (cur:Array Value),w.heap[b]? =some (.cells cur e (0,0))→cur.toList=A++V++B→A.length=o+i→V.length=l.length→(∀v∈l,one v=true)→
  ∃w',stC w ⟨b,o,Option.none⟩ i l=some w'∧w'.heap.size=w.heap.size∧Keep (fun x=>x=b) w w'∧∃cur':Array Value,w'.heap[b]? =some (.cells cur' e (0,0))∧cur'.toList=A++l++B
 | [],i,w,A,V,B,cur,hb,hc,hA,hV,_=>by
  have:V=[]:=List.length_eq_zero_iff.1 hV
  subst this
  exact⟨w,rfl,rfl,Keep.refl _ _,cur,hb,by simpa using hc⟩
 |v::l,i,w,A,V,B,cur,hb,hc,hA,hV,h1=>by
  cases V with
  |nil=>simp at hV
  |cons u V=>
   have hcl:=congrArg List.length hc
   simp only[List.length_append,List.length_cons,Array.length_toList]at hcl
   have hlt:o+i<cur.size:=by omega
   have hset:(cur.setIfInBounds (o+i) v).toList=(A++ [v])++V++B:=by
    rw[Array.toList_setIfInBounds,hc,←hA,List.append_assoc,List.set_append_right _ _ (Nat.le_refl _),Nat.sub_self]
    simp
   obtain⟨w',k1,k2,k3,cur',k4,k5⟩:=zef l (i+1) (w.setCell ⟨b,o+i,Option.none⟩ v) (A++ [v]) V B _ (zhO hb) hset (by rw[List.length_append,hA];rfl) (by simpa using hV) (fun x hx=>h1 x (List.mem_cons_of_mem _ hx))
   refine⟨w',?_,by rw[k2];simp,(zjA w b (o+i) v).trans k3,cur',k4,by simpa using k5⟩
   unfold stC
   rw[zfv,zb3 hb,zii hb,Array.getElem?_eq_getElem hlt,h1 v (List.mem_cons_self ..)]
   simpa using k1
theorem SD.set{k:Nat}{w:World}{b:Nat}{e:TypeId}{cap:Nat}{D:List (List Value)}(h:SD k w b e cap D){P:Program}{t:TypeId}{K:Value→World→Prop}{j:Nat}(hj:j<D.length){x:List Value}(hx:x.length=k)(h1:∀v∈x,one v=true)
  (hs:tyS P t=k) (hi:(P.info? t).isSome=true) (hK:∀w',w'.heap.size=w.heap.size→SD k w' b e cap (D.set j x)→Keep (fun i=>i=b) w w'→K undef w'):
  stK P t (.pointer (some ⟨b,j*k,Option.none⟩)) (.agg x.toArray) w K:=by
 obtain⟨cur,R,hb,hc,hsz⟩:=h.lies
 obtain⟨e1,e2⟩:=zho h.len hj
 have hk:=h.len D[j] (List.getElem_mem hj)
 rw[e1,List.append_assoc,List.append_assoc]at hc
 obtain⟨w',k1,k2,k3,cur',k4,k5⟩:=zef (o:=j*k) x 0 w (D.take j).flatten D[j] ((D.drop (j+1)).flatten++R) cur hb (by rw[hc];simp) (by simpa using e2) (by rw[hk,hx]) h1
 refine⟨by simp[Value.cells,hx,hs],hi,w',by simpa [Value.cells] using k1,hK w' k2 ⟨⟨cur',R,k4,?_,?_⟩,?_,?_⟩ k3⟩
 ·have e3:(D.set j x).flatten=(D.take j).flatten++x++(D.drop (j+1)).flatten:=by
   rw[List.set_eq_take_append_cons_drop,if_pos hj];simp
  rw[k5,e3];simp
 ·have l1:=congrArg List.length k5
  have l2:=congrArg List.length hc
  simp only[List.length_append,Array.length_toList]at l1 l2
  omega
 ·intro y hy
  rcases List.mem_or_eq_of_mem_set hy with hy|rfl
  ·exact h.len y hy
  ·exact hx
 ·intro y hy
  rcases List.mem_or_eq_of_mem_set hy with hy|rfl
  ·exact h.ones y hy
  ·exact h1
theorem SD.keep{k:Nat}{w x:World}{b:Nat}{e:TypeId}{cap:Nat}{D:List (List Value)}{S:Nat→Prop}(h:SD k w b e cap D)(hk:Keep S w x)(hS:¬S b):SD k x b e cap D:=by
 obtain⟨⟨cur,R,hb,hr⟩,h1,h2⟩:=h
 exact⟨⟨cur,R,(hk.block _ (Array.getElem?_eq_some_iff.1 hb).1 hS).trans hb,hr⟩,h1,h2⟩
theorem SD.ext{k:Nat}{w x:World}{b:Nat}{e:TypeId}{cap:Nat}{D:List (List Value)}(h:SD k w b e cap D)(hE:Ext w x):SD k x b e cap D:=h.keep hE (fun h=>h)
theorem SD.lt{k:Nat}{w:World}{b:Nat}{e:TypeId}{cap:Nat}{D:List (List Value)}(h:SD k w b e cap D):b<w.heap.size:=by
 obtain⟨cur,R,hb,_⟩:=h.lies
 exact(Array.getElem?_eq_some_iff.1 hb).1
def ldAX(P:Program)(w:World)(t:TypeId)(p:Option Addr):Bool→Nat→Option Value
 |true,k=>(zar w p k).map fun l=> .agg l.toArray
 |false,_=>ldP P w t p
theorem ldA_X{P:Program}{w:World}{t:TypeId}(p:Option Addr):ldA P w t p=ldAX P w t p (tyA P t) (tyS P t):=by
 cases hA:tyA P t with
 |true=>exact zmr hA
 |false=>rfl
theorem zms{P:Program}{w:World}{t:TypeId}(p:Option Addr)(k:Nat):ldAX P w t p true k=(zar w p k).map fun l=> .agg l.toArray:=nr rfl
attribute [go_sem] ldA_X zms
theorem zaa{w:World}{b i:Nat}{cur:Array Value}{e:TypeId}{fr:Nat×Nat}{v:Value}(h:w.heap[b]? =some (.cells cur e fr))(hv:cur[i]? =some v):zad w (some ⟨b,i,Option.none⟩)=some v:=by
 show w.cell? _=_
 rw[zb3 h];exact hv
def zfL(k:Nat):List Value→List (Nat×Value)
 | []=>[]
 |v::l=>(k,v)::zfL (k+1) l
theorem zio:∀(l:List Value) (k:Nat) (cells:Array Value),(∀v∈l,v.cells=#[v])→k+l.length≤cells.size→
  ∃r,Instr.fill (fun i=>some (i*1,1)) cells (zfL k l)=some r∧r.toList=cells.toList.take k++l++cells.toList.drop (k+l.length)
 | [],k,cells,_,_=>⟨cells,rfl,by simp⟩
 |v::l,k,cells,h,hk=>by
  simp only[List.length_cons]at hk
  have hv:=h v (List.mem_cons_self ..)
  obtain⟨r,h1,h2⟩:=zio l (k+1) (cells.setIfInBounds k v) (fun u hu=>h u (List.mem_cons_of_mem _ hu)) (by simp;omega)
  refine⟨r,?_,?_⟩
  ·unfold zfL Instr.fill
   simp only[hv,Nat.mul_one]
   have:¬((#[v]:Array Value).size≠1∨k+(#[v]:Array Value).size>cells.size):=by simp;omega
   rw[if_neg (by simpa using this)]
   simpa using h1
  ·rw[h2,Array.toList_setIfInBounds,List.take_set,List.drop_set_of_lt (by omega)]
   have hlt:k<cells.toList.length:=by simp;omega
   rw[zak hlt]
   have e1:(cells.toList.take k).length=k:=by rw[List.length_take];omega
   rw[List.set_append_right _ _ (by omega),e1,Nat.sub_self,List.set_cons_zero]
   simp[Nat.add_assoc,Nat.add_comm 1]
section
variable {P : Program} {w : World} {K : Value → World → Prop}
theorem zbQ{t e:TypeId}{z:Value}{l:List Value}{n:Nat}{parts:List (Nat×Value)}(hn:n=l.length)(hp:parts=zfL 0 l)(hu:tyU P t=some (.slice e))(hz:tyZ P e=some z)(hs:tyS P e=1)(hz1:z.cells=#[z])(hv:∀v∈l,v.cells=#[v])(hl:l.length≤1000000)
  (h:∀w1,Ext w w1→w1.heap.size=w.heap.size+1→Own w.heap.size w1 e (.slice (some ⟨w.heap.size,0,Option.none⟩) n n) l→K (.slice (some ⟨w.heap.size,0,Option.none⟩) n n) w1):bsL P t n parts w K .mk:=by
 subst hn hp
 unfold bsL bsK
 have hsz:((Array.range (l.length*1)).map fun x=>z.cells[x % z.cells.size]!).size=l.length:=by simp
 obtain⟨r,h1,h2⟩:=zio l 0 ((Array.range (l.length*1)).map fun x=>z.cells[x % z.cells.size]!) hv (by rw[hsz];omega)
 have hr:r.toList=l:=by
  rw[h2,List.take_zero,List.nil_append,Nat.zero_add,List.drop_of_length_le (by rw[Array.length_toList,hsz];exact Nat.le_refl _),List.append_nil]
 have:bsC P t l.length (zfL 0 l)=some (e,r):=by
  unfold bsC
  rw[hu]
  simp only[hz,hs]
  have c1:(decide (l.length*1≤2 ^ 24) && decide (z.cells.size=1))=true:=by rw[hz1];simp;omega
  rw[c1,cond_true,h1];rfl
 rw[this]
 have hrs:r.size=l.length:=by rw[←hr];simp
 exact h _ (Ext.alloc w _) (zax w _) ⟨by simp,.inr ⟨w.heap.size,l.length,r,rfl,Nat.le_refl _,zat w _,Nat.le_refl _,by simp[maxLen];omega,by simpa using hrs,by rw[hr];simp⟩⟩
end
abbrev v32(n:Int):Value:= .int .u32 n
structure DatL where
 ty:Int
 names:List Nm
 nums:List Int
 texts:List Lab
 raw:List UInt8
structure RecL where
 owner:Nm
 ttl:Int
 dat:DatL
def zcG(a b:Nm):Int:=cmpN (zaB a) (zaB b)
def cmpD(a b:DatL):Int:=orI [cmpI a.ty b.ty,lexC zcG a.names b.names,lexC cmpI a.nums b.nums,lexC cmpL a.texts b.texts,cmpL a.raw b.raw]
def zaA(a b:RecL):Int:=orI [zcG a.owner b.owner,cmpI a.dat.ty b.dat.ty,cmpD a.dat b.dat]
structure DatAt(w:World)(cs:List Value)(d:DatL):Prop where
 ex:∃nm nu tx rw,cs=[vi d.ty,nm,nu,tx,rw]∧NamesAt w nm d.names∧Row w nu (d.nums.map v32)∧Row w tx (d.texts.map vs)∧Row w rw (d.raw.map zao)
structure RecAt(w:World)(cs:List Value)(r:RecL):Prop where
 ex:∃ow ds,cs=ow::v32 r.ttl::ds∧Row w ow (r.owner.map vs)∧DatAt w ds r.dat
theorem DatAt.ext{w x:World}{cs:List Value}{d:DatL}(h:DatAt w cs d)(hE:Ext w x):DatAt x cs d:=by
 obtain⟨nm,nu,tx,rw,e,h1,h2,h3,h4⟩:=h.ex
 exact⟨nm,nu,tx,rw,e,h1.ext hE,h2.ext hE,h3.ext hE,h4.ext hE⟩
theorem RecAt.ext{w x:World}{cs:List Value}{r:RecL}(h:RecAt w cs r)(hE:Ext w x):RecAt x cs r:=by
 obtain⟨ow,ds,e,h1,h2⟩:=h.ex
 exact⟨ow,ds,e,h1.ext hE,h2.ext hE⟩
structure zhD(d:DatL):Prop where
 names:∀n∈d.names,LB n∧n.length≤1000000000000000
 nn:d.names.length≤1000000000000000
 nu:d.nums.length≤1000000000000000
 nt:d.texts.length≤1000000000000000
 nv:∀n∈d.nums,0≤n∧n≤4294967295
 nr:d.raw.length≤1000000000000000
structure zby(r:RecL):Prop where
 lb:LB r.owner
 len:r.owner.length≤1000000000000000
 dat:zhD r.dat
theorem rowN_ok(w:World)(a b:Value)(xs ys:List Nm)(ha:NamesAt w a xs)(hb:NamesAt w b ys)(hx:∀n∈xs,LB n∧n.length≤1000000000000000)(hy:∀n∈ys,LB n∧n.length≤1000000000000000)(hxl:xs.length≤1000000000000000)(hyl:ys.length≤1000000000000000):
  Fn Tryz.prog 102 #[a,b,.func (.func 66) #[] #[]] w (fun v w'=>v=vi (lexC zcG xs ys)∧Ext w w'):=by
 refine enter Tryz.func102 Tryz.ntmps102 rfl rfl ?_
 repeat refine c_r ?_
 refine rg0 ?_
 repeat refine c_r ?_
 refine rq ?_;intro gd K hgd hK
 try simp only[go_sem]
 refine Fn.mono (C_cn.CompareFunc_ok (Rl:=fun w (n:Nm) v=>Row w v (n.map vs)) (U:=fun n=>LB n∧n.length≤1000000000000000) (cf:=zcG) (fun w x a v hE h=>h.ext hE) rfl (fun A x y u v hE hx hy hu hv=>zgl A u v x y hu hv hx.1 hy.1 (by have:=hx.2;omega) (by have:=hy.2;omega)) (xs:=xs) (ys:=ys) ha hb hx hy hxl hyl) ?_
 rintro _ w1 ⟨rfl,hE⟩
 try simp only[go_sem]
 refine hK _ _ ?_;clear hK hgd;clear K;try clear gd
 repeat refine c_r ?_
 refine rt0 Tryz.ntmps102 ?_
 exact⟨rfl,hE⟩
theorem zkj{α:Type}{f:α→Value}{w:World}{v:Value}{xs:List α}(h:Row w v (xs.map f)):C_cu.RowR (fun _ a u=>u=f a) w v xs:=⟨_,h,by simp,fun i h1 h2=>by simp⟩
theorem rowU_ok(w:World)(a b:Value)(xs ys:List Int)(ha:Row w a (xs.map v32))(hb:Row w b (ys.map v32))(hxl:xs.length≤1000000000000000)(hyl:ys.length≤1000000000000000):
  Fn Tryz.prog 103 #[a,b,.func (.func 104) #[] #[]] w (fun v w'=>v=vi (lexC cmpI xs ys)∧Ext w w'):=by
 refine enter Tryz.func103 Tryz.ntmps103 rfl rfl ?_
 repeat refine c_r ?_
 refine rg0 ?_
 repeat refine c_r ?_
 refine rq ?_;intro gd K hgd hK
 try simp only[go_sem]
 refine Fn.mono (C_cu.CompareFunc_ok (Rl:=fun _ (n:Int) v=>v=v32 n) (U:=fun _=>True) (cf:=cmpI) (fun w x a v hE h=>h) rfl (fun A x y u v hE hx hy hu hv=>by subst hu hv;exact Fn.mono (N_uint32.Compare_ok A x y) (fun _ _ ⟨h1,h2⟩=>⟨h1,h2▸Keep.refl _ _⟩)) (xs:=xs) (ys:=ys) (zkj ha) (zkj hb) (fun _ _=>trivial) (fun _ _=>trivial) hxl hyl) ?_
 rintro _ w1 ⟨rfl,hE⟩
 try simp only[go_sem]
 refine hK _ _ ?_;clear hK hgd;clear K;try clear gd
 repeat refine c_r ?_
 refine rt0 Tryz.ntmps103 ?_
 exact⟨rfl,hE⟩
theorem rowT_ok(w:World)(a b:Value)(xs ys:List Lab)(ha:Row w a (xs.map vs))(hb:Row w b (ys.map vs))(hxl:xs.length≤1000000000000000)(hyl:ys.length≤1000000000000000):
  Fn Tryz.prog 105 #[a,b,.func (.func 106) #[] #[]] w (fun v w'=>v=vi (lexC cmpL xs ys)∧Ext w w'):=by
 refine enter Tryz.func105 Tryz.ntmps105 rfl rfl ?_
 repeat refine c_r ?_
 refine rg0 ?_
 repeat refine c_r ?_
 refine rq ?_;intro gd K hgd hK
 try simp only[go_sem]
 refine Fn.mono (C_ct.CompareFunc_ok (Rl:=fun _ (n:Lab) v=>v=vs n) (U:=fun _=>True) (cf:=cmpL) (fun w x a v hE h=>h) rfl (fun A x y u v hE hx hy hu hv=>by subst hu hv;exact Fn.mono (zgg A x y) (fun _ _ ⟨h1,h2⟩=>⟨h1,h2▸Keep.refl _ _⟩)) (xs:=xs) (ys:=ys) ⟨_,ha,by simp,fun i h1 h2=>by simp⟩ ⟨_,hb,by simp,fun i h1 h2=>by simp⟩ (fun _ _=>trivial) (fun _ _=>trivial) hxl hyl) ?_
 rintro _ w1 ⟨rfl,hE⟩
 try simp only[go_sem]
 refine hK _ _ ?_;clear hK hgd;clear K;try clear gd
 repeat refine c_r ?_
 refine rt0 Tryz.ntmps105 ?_
 exact⟨rfl,hE⟩
theorem zjt(w:World)(ca cb:List Value)(a b:DatL)(ha:DatAt w ca a)(hb:DatAt w cb b)(hoa:zhD a)(hob:zhD b):
  Fn Tryz.prog 68 #[.agg ca.toArray,.agg cb.toArray] w (fun v w'=>v=vi (cmpD a b)∧Ext w w'):=by
 obtain⟨nm,nu,tx,rw',rfl,a1,a2,a3,a4⟩:=ha.ex
 obtain⟨nm2,nu2,tx2,rw2,rfl,b1,b2,b3,b4⟩:=hb.ex
 refine enter Tryz.func68 Tryz.ntmps68 rfl rfl ?_
 repeat refine c_r ?_
 refine rg0 ?_
 repeat refine c_r ?_
 have k1:=zat w (.cells #[vi a.ty,nm,nu,tx,rw'] 47 (0,0))
 have kE:=(Ext.alloc w (.cells #[vi a.ty,nm,nu,tx,rw'] 47 (0,0))).trans (Ext.alloc _ (.cells #[vi b.ty,nm2,nu2,tx2,rw2] 47 (0,0)))
 have k2:=zat (w.alloc (.cells #[vi a.ty,nm,nu,tx,rw'] 47 (0,0))) (.cells #[vi b.ty,nm2,nu2,tx2,rw2] 47 (0,0))
 have k1':=(RowKit.Below.heap_alloc _ (.cells #[vi b.ty,nm2,nu2,tx2,rw2] 47 (0,0)) _ (by simp)).trans k1
 rw[zax]at k2 ⊢
 clear k1
 revert k1' kE k2
 generalize (w.alloc (.cells #[vi a.ty,nm,nu,tx,rw'] 47 (0,0))).alloc (.cells #[vi b.ty,nm2,nu2,tx2,rw2] 47 (0,0))=w1
 intro kE k2 k1
 refine zaF (fun _=>false) [(0,true),(1,true),(2,true),(3,true),(5,true),(6,true),(7,true),(8,true),(10,true),(11,true),(12,true),(13,true),(15,true),(16,true),(17,true),(18,true),(20,true),(21,true),(22,true),(23,true),(4,false),(9,false),(14,false),(19,false),(24,false),(25,false),(26,false),(27,true)] NoS mixed (by kernel_rfl) ?_;intro gd K x hgd hx hxe hK;clear hxe
 have hE1:=kE.trans hx
 have K1:=(hx.block _ (Array.getElem?_eq_some_iff.1 k1).1 (fun h=>h)).trans k1
 have K2:=(hx.block _ (Array.getElem?_eq_some_iff.1 k2).1 (fun h=>h)).trans k2
 have p0:zad x (some ⟨w.heap.size,0,Option.none⟩)=some (vi a.ty):=zaa K1 rfl
 have p1:zad x (some ⟨w.heap.size,1,Option.none⟩)=some (nm):=zaa K1 rfl
 have p2:zad x (some ⟨w.heap.size,2,Option.none⟩)=some (nu):=zaa K1 rfl
 have p3:zad x (some ⟨w.heap.size,3,Option.none⟩)=some (tx):=zaa K1 rfl
 have p4:zad x (some ⟨w.heap.size,4,Option.none⟩)=some (rw'):=zaa K1 rfl
 have q0:zad x (some ⟨w.heap.size+1,0,Option.none⟩)=some (vi b.ty):=zaa K2 rfl
 have q1:zad x (some ⟨w.heap.size+1,1,Option.none⟩)=some (nm2):=zaa K2 rfl
 have q2:zad x (some ⟨w.heap.size+1,2,Option.none⟩)=some (nu2):=zaa K2 rfl
 have q3:zad x (some ⟨w.heap.size+1,3,Option.none⟩)=some (tx2):=zaa K2 rfl
 have q4:zad x (some ⟨w.heap.size+1,4,Option.none⟩)=some (rw2):=zaa K2 rfl
 simp (disch:=first|omega|assumption|rfl) only[go_sem,p0,p1,p2,p3,p4,q0,q1,q2,q3,q4]
 refine Fn.mono (N_int.Compare_ok x _ _) ?_
 rintro _ x0 ⟨rfl,h0⟩
 replace h0:=h0.symm
 subst h0
 refine⟨.inr (Keep.refl _ _),?_⟩
 simp (disch:=first|omega|assumption|rfl) only[go_sem]
 refine Fn.mono (rowN_ok x _ _ _ _ (a1.ext hE1) (b1.ext hE1) hoa.names hob.names hoa.nn hob.nn) ?_
 rintro _ x1 ⟨rfl,h1⟩
 refine⟨.inr h1,?_⟩
 simp (disch:=first|omega|assumption|rfl) only[go_sem]
 refine Fn.mono (rowU_ok x1 _ _ _ _ (a2.ext (hE1.trans h1)) (b2.ext (hE1.trans h1)) hoa.nu hob.nu) ?_
 rintro _ x2 ⟨rfl,h2⟩
 refine⟨.inr h2,?_⟩
 simp (disch:=first|omega|assumption|rfl) only[go_sem]
 refine Fn.mono (rowT_ok x2 _ _ _ _ (a3.ext ((hE1.trans h1).trans h2)) (b3.ext ((hE1.trans h1).trans h2)) hoa.nt hob.nt) ?_
 rintro _ x3 ⟨rfl,h3⟩
 refine⟨.inr h3,?_⟩
 have hE3:=((hE1.trans h1).trans h2).trans h3
 simp (disch:=first|omega|assumption|rfl) only[go_sem]
 refine Fn.mono (zjv x3 _ _ _ _ (a4.ext hE3) (b4.ext hE3)) ?_
 rintro _ x0 ⟨rfl,h0⟩
 replace h0:=h0.symm
 subst h0
 refine⟨.inr (Keep.refl _ _),?_⟩
 simp (disch:=first|omega|assumption|rfl) only[go_sem]
 refine zbQ (z:=vi 0) (l:=[vi (cmpI a.ty b.ty),vi (lexC zcG a.names b.names),vi (lexC cmpI a.nums b.nums),vi (lexC cmpL a.texts b.texts),vi (cmpL a.raw b.raw)]) rfl rfl rfl rfl rfl rfl (fun v hv=>by simp at hv;rcases hv with rfl|rfl|rfl|rfl|rfl<;>rfl) (by simp) ?_
 intro x4 h4 hs4 ho4
 refine⟨.inr h4,?_⟩
 simp (disch:=first|omega|assumption|rfl) only[go_sem]
 refine Fn.mono (Or_ok x4 _ [cmpI a.ty b.ty,lexC zcG a.names b.names,lexC cmpI a.nums b.nums,lexC cmpL a.texts b.texts,cmpL a.raw b.raw] ho4.row (by simp)) ?_
 rintro _ x0 ⟨rfl,h0⟩
 replace h0:=h0.symm
 subst h0
 refine⟨.inr (Keep.refl _ _),?_⟩
 simp (disch:=first|omega|assumption|rfl) only[go_sem]
 refine hK _ _ ?_;clear hK hgd;clear K;try clear gd
 repeat refine c_r ?_
 refine rt0 Tryz.ntmps68 ?_
 exact⟨rfl,hE3.trans h4⟩
theorem zc6(w:World)(ca cb:List Value)(a b:RecL)(ha:RecAt w ca a)(hb:RecAt w cb b)(hoa:zby a)(hob:zby b):
  Fn Tryz.prog 38 #[.agg ca.toArray,.agg cb.toArray] w (fun v w'=>v=vi (zaA a b)∧Ext w w'):=by
 obtain⟨ow,ds,rfl,a1,a2⟩:=ha.ex
 obtain⟨ow2,ds2,rfl,b1,b2⟩:=hb.ex
 have a2':=a2
 have b2':=b2
 obtain⟨nm,nu,tx,rw',rfl,_⟩:=a2.ex
 obtain⟨nm2,nu2,tx2,rw2,rfl,_⟩:=b2.ex
 refine enter Tryz.func38 Tryz.ntmps38 rfl rfl ?_
 repeat refine c_r ?_
 refine rg0 ?_
 repeat refine c_r ?_
 have k1:=zat w (.cells #[ow,v32 a.ttl,vi a.dat.ty,nm,nu,tx,rw'] 49 (0,0))
 have kE:=(Ext.alloc w (.cells #[ow,v32 a.ttl,vi a.dat.ty,nm,nu,tx,rw'] 49 (0,0))).trans (Ext.alloc _ (.cells #[ow2,v32 b.ttl,vi b.dat.ty,nm2,nu2,tx2,rw2] 49 (0,0)))
 have k2:=zat (w.alloc (.cells #[ow,v32 a.ttl,vi a.dat.ty,nm,nu,tx,rw'] 49 (0,0))) (.cells #[ow2,v32 b.ttl,vi b.dat.ty,nm2,nu2,tx2,rw2] 49 (0,0))
 have k1':=(RowKit.Below.heap_alloc _ (.cells #[ow2,v32 b.ttl,vi b.dat.ty,nm2,nu2,tx2,rw2] 49 (0,0)) _ (by simp)).trans k1
 rw[zax]at k2 ⊢
 clear k1
 revert k1' kE k2
 generalize (w.alloc (.cells #[ow,v32 a.ttl,vi a.dat.ty,nm,nu,tx,rw'] 49 (0,0))).alloc (.cells #[ow2,v32 b.ttl,vi b.dat.ty,nm2,nu2,tx2,rw2] 49 (0,0))=w1
 intro kE k2 k1
 refine zaF (fun _=>false) [(0,true),(1,true),(2,true),(3,true),(5,true),(6,true),(7,true),(8,true),(9,true),(10,true),(12,true),(13,true),(14,true),(15,true),(4,false),(11,false),(16,false),(17,false),(18,false),(19,true)] NoS mixed (by kernel_rfl) ?_;intro gd K x hgd hx hxe hK;clear hxe
 have hE1:=kE.trans hx
 have K1:=(hx.block _ (Array.getElem?_eq_some_iff.1 k1).1 (fun h=>h)).trans k1
 have K2:=(hx.block _ (Array.getElem?_eq_some_iff.1 k2).1 (fun h=>h)).trans k2
 have p0:zad x (some ⟨w.heap.size,0,Option.none⟩)=some ow:=zaa K1 rfl
 have p2:zad x (some ⟨w.heap.size,2,Option.none⟩)=some (vi a.dat.ty):=zaa K1 rfl
 have p5:zar x (some ⟨w.heap.size,2,Option.none⟩) 5=some [vi a.dat.ty,nm,nu,tx,rw']:=zay K1 (Nat.le_refl 7)
 have q0:zad x (some ⟨w.heap.size+1,0,Option.none⟩)=some ow2:=zaa K2 rfl
 have q2:zad x (some ⟨w.heap.size+1,2,Option.none⟩)=some (vi b.dat.ty):=zaa K2 rfl
 have q5:zar x (some ⟨w.heap.size+1,2,Option.none⟩) 5=some [vi b.dat.ty,nm2,nu2,tx2,rw2]:=zay K2 (Nat.le_refl 7)
 simp (disch:=first|omega|assumption|rfl) only[go_sem,p0,p2,p5,q0,q2,q5,Nat.add_zero]
 refine Fn.mono (zgl x _ _ _ _ (a1.ext hE1) (b1.ext hE1) hoa.lb hob.lb (by have:=hoa.len;omega) (by have:=hob.len;omega)) ?_
 rintro _ x1 ⟨rfl,h1⟩
 refine⟨.inr h1,?_⟩
 simp (disch:=first|omega|assumption|rfl) only[go_sem]
 refine Fn.mono (N_int.Compare_ok x1 _ _) ?_
 rintro _ x0 ⟨rfl,h0⟩
 replace h0:=h0.symm
 subst h0
 refine⟨.inr (Keep.refl _ _),?_⟩
 simp (disch:=first|omega|assumption|rfl) only[go_sem]
 refine Fn.mono (zjt x1 _ _ a.dat b.dat (a2'.ext (hE1.trans h1)) (b2'.ext (hE1.trans h1)) hoa.dat hob.dat) ?_
 rintro _ x2 ⟨rfl,h2⟩
 refine⟨.inr h2,?_⟩
 simp (disch:=first|omega|assumption|rfl) only[go_sem]
 refine zbQ (z:=vi 0) (l:=[vi (cmpN (zaB a.owner) (zaB b.owner)),vi (cmpI a.dat.ty b.dat.ty),vi (cmpD a.dat b.dat)]) rfl rfl rfl rfl rfl rfl (fun v hv=>by simp at hv;rcases hv with rfl|rfl|rfl<;>rfl) (by simp) ?_
 intro x4 h4 hs4 ho4
 refine⟨.inr h4,?_⟩
 simp (disch:=first|omega|assumption|rfl) only[go_sem]
 refine Fn.mono (Or_ok x4 _ [cmpN (zaB a.owner) (zaB b.owner),cmpI a.dat.ty b.dat.ty,cmpD a.dat b.dat] ho4.row (by simp)) ?_
 rintro _ x0 ⟨rfl,h0⟩
 replace h0:=h0.symm
 subst h0
 refine⟨.inr (Keep.refl _ _),?_⟩
 simp (disch:=first|omega|assumption|rfl) only[go_sem]
 refine hK _ _ ?_;clear hK hgd;clear K;try clear gd
 repeat refine c_r ?_
 refine rt0 Tryz.ntmps38 ?_
 exact⟨rfl,((hE1.trans h1).trans h2).trans h4⟩
structure OwnK(k B:Nat)(w:World)(e:TypeId)(v:Value)(L:List (List Value)):Prop where
 own:w.ownsRow B e k v L.length L.flatten
 len:∀x∈L,x.length=k
 ones:∀x∈L,∀v∈x,one v=true
section
variable {P : Program} {d : Option Tmp} {ty : TypeId} {ps : String} {af : Array Edge} {g : Option (Nat × Bool)} {ρ : Operand → Value} {w : World} {K : Value → World → Prop}
theorem OwnK.nil(k B:Nat)(w:World)(e:TypeId):OwnK k B w e (.slice Option.none 0 0) []:=⟨⟨by simp,.inl ⟨rfl,rfl⟩⟩,fun x h=>(by cases h),fun x h=>(by cases h)⟩
theorem OwnK.ge{k B:Nat}{e:TypeId}{v:Value}{L:List (List Value)}(h:OwnK k B w e v L){b:Nat}(hb:some b=v.ownBlock):B≤b∧b<w.heap.size:=by
 rcases h.own.2 with ⟨rfl,_⟩| ⟨g,cap,cur,rfl,hg,hc,_⟩
 ·cases hb
 ·cases hb;exact⟨hg,(Array.getElem?_eq_some_iff.1 hc).1⟩
theorem OwnK.keep{k B:Nat}{e:TypeId}{v:Value}{L:List (List Value)}{x:World}{S:Nat→Prop}(h:OwnK k B w e v L)(hk:Keep S w x)(hS:∀b,some b=v.ownBlock→¬S b):OwnK k B x e v L:=by
 obtain⟨⟨h1,h2⟩,h3,h4⟩:=h
 refine⟨⟨h1,?_⟩,h3,h4⟩
 rcases h2 with h2| ⟨g,cap,cur,hv,hb,hg,rest⟩
 ·exact .inl h2
 ·exact .inr ⟨g,cap,cur,hv,hb,(hk.block _ (Array.getElem?_eq_some_iff.1 hg).1 (hS _ (by rw[hv];rfl))).trans hg,rest⟩
theorem OwnK.ext{k B:Nat}{e:TypeId}{v:Value}{L:List (List Value)}{x:World}(h:OwnK k B w e v L)(hk:Ext w x):OwnK k B x e v L:=h.keep hk (fun _ _ h=>h)
theorem OwnK.mono{k B B':Nat}{e:TypeId}{v:Value}{L:List (List Value)}(h:OwnK k B w e v L)(hB:B'≤B):OwnK k B' w e v L:=by
 obtain⟨⟨h1,h2⟩,h3,h4⟩:=h
 refine⟨⟨h1,?_⟩,h3,h4⟩
 rcases h2 with h2| ⟨g,cap,cur,hv,hb,rest⟩
 ·exact .inl h2
 ·exact .inr ⟨g,cap,cur,hv,by omega,rest⟩
theorem OwnK.cases{k B:Nat}{e:TypeId}{v:Value}{L:List (List Value)}(h:OwnK k B w e v L):
  (v= .slice Option.none 0 0∧L=[])∨∃b cap,v= .slice (some ⟨b,0,Option.none⟩) L.length cap∧B≤b∧L.length≤cap∧cap≤maxLen∧SD k w b e cap L:=by
 obtain⟨⟨h1,h2⟩,h3,h4⟩:=h
 rcases h2 with ⟨rfl,h0⟩| ⟨g,cap,cur,rfl,hg,hb,hn,hm,hcs,hx⟩
 ·exact .inl ⟨rfl,List.length_eq_zero_iff.1 h0⟩
 ·refine .inr ⟨g,cap,rfl,hg,hn,hm,⟨cur,cur.toList.drop (L.length*k),hb,?_,hcs⟩,h3,h4⟩
  rw[←hx,List.take_append_drop]
theorem OwnK.of_sd{k B b cap:Nat}{e:TypeId}{L:List (List Value)}(h:SD k w b e cap L)(hB:B≤b)(hc:L.length≤cap)(hm:cap≤maxLen):OwnK k B w e (.slice (some ⟨b,0,Option.none⟩) L.length cap) L:=by
 obtain⟨cur,R,hb,e1,e2⟩:=h.lies
 refine⟨⟨zbG h.len,.inr ⟨b,cap,cur,rfl,hB,hb,hc,hm,e2,?_⟩⟩,h.len,h.ones⟩
 rw[e1,List.take_left' (zbG h.len)]
theorem OwnK.rowK{k B:Nat}{e:TypeId}{v:Value}{L:List (List Value)}(h:OwnK k B w e v L):RowK k w v L:=by
 rcases h.cases with ⟨rfl,rfl⟩| ⟨b,cap,rfl,_,hc,_,hD⟩
 ·exact⟨Option.none,0,rfl,Nat.le_refl _,fun j h=>by simp at h⟩
 ·exact⟨_,cap,rfl,hc,fun j hj=>by rw[zaZ,Nat.zero_add];exact hD.get hj⟩
theorem Src1.of_rowK{k:Nat}{u:Value}{L:List (List Value)}(h:RowK k w u L)(hk:∀x∈L,x.length=k):Src1 w u L.length k L.flatten:=by
 obtain⟨a,c,rfl,hc,hl⟩:=h
 refine⟨a,c,rfl,zbG hk,fun j hj=>?_⟩
 rw[zbG hk]at hj
 have hk0:0<k:=Nat.pos_of_ne_zero (fun h=>by subst h;simp at hj)
 have hq:j / k<L.length:=Nat.div_lt_of_lt_mul (by rw[Nat.mul_comm];exact hj)
 obtain⟨e1,e2⟩:=zho hk hq
 have hlen:=hk L[j / k] (List.getElem_mem hq)
 have hr:j % k<L[j / k].length:=by rw[hlen];exact Nat.mod_lt _ hk0
 have hg:=zaN (hl (j / k) hq) hr
 have hj2:j / k*k+j % k=j:=by rw[Nat.mul_comm];exact Nat.div_add_mod j k
 rw[zeY,hj2]at hg
 rw[hg]
 have:L.flatten[j]? =some L[j / k][j % k]:=by
  rw[e1,List.append_assoc,List.getElem?_append_right (by rw[e2];omega),List.getElem?_append_left (by rw[e2];omega),e2]
  rw[show j - j / k*k=j % k from by omega]
  exact List.getElem?_eq_getElem hr
 rw[List.getElem?_eq_getElem (by rw[zbG hk];exact hj)]at this
 exact this.symm
theorem zg9{k B:Nat}{s x:Operand}{t e:TypeId}{inf:TypeInfo}{z:Value}{bytes:Nat}{v u:Value}{L N:List (List Value)}(hown:OwnK k B w e v L)(hrow:RowK k w u N)
  (ht:tyU P t=some (.slice e)) (hi:P.info? e=some inf) (hz:inf.zero=some z)
  (hsize:inf.size=k) (hby:inf.bytes=bytes) (hzs:z.cells.size=k) (hk0:0<k) (hv:ρ s=v) (hu:ρ x=u)
  (hl:∀x∈N,x.length=k) (h1:∀x∈N,∀q∈x,one q=true) (hlen:L.length+N.length≤100000000000) (hbytes:bytes≤1000) (hB:B≤w.heap.size)
  (h:∀v' w',OwnK k B w' e v' (L++N)→(∀w0,Ext w0 w→w0.heap.size≤B→Ext w0 w')→Keep (fun b=>some b=v.ownBlock) w w'→(∀b,some b=v'.ownBlock→some b=v.ownBlock∨w.heap.size≤b)→(v'= .slice Option.none 0 0→v= .slice Option.none 0 0)→K v' w'):
  opW P ⟨d,.call ⟨.builtin .append,#[s,x],#[t,t]⟩,ty,ps,af,g⟩ ρ w K:=by
 refine zh3 (B:=B) (m:=N.length) (xs:=L.flatten) (news:=N.flatten) (n:=L.length) ht hi hz hsize hby hzs hk0 hv hu hown.own (Src1.of_rowK hrow hl) ?_ (by simp[maxLen];omega) ?_ hB ?_
 ·intro q hq
  obtain⟨y,hy,hq⟩:=List.mem_flatten.1 hq
  exact h1 y hy q hq
 ·have:(L.length+N.length)*bytes≤100000000000*1000:=Nat.mul_le_mul hlen hbytes
  omega
 ·intro v' w' ho hk hw
  refine h v' w' ⟨by simpa using ho,?_,?_⟩ (fun w0 hE hB0=>?_) hk hw.2 (fun hv'=>(hw.1.1 hv').1)
  ·intro y hy
   rcases List.mem_append.1 hy with hy|hy
   ·exact hown.len y hy
   ·exact hl y hy
  ·intro y hy
   rcases List.mem_append.1 hy with hy|hy
   ·exact hown.ones y hy
   ·exact h1 y hy
  ·exact Keep.to_ext hE rfl (fun b hb=>by have:=(hown.ge hb).1;omega) hk
theorem zjj{k:Nat}{t e:TypeId}{z:Value}(hu:tyU P t=some (.slice e))(hz:tyZ P e=some z)(hs:tyS P e=k)(hz1:z.cells.size=k)
  (h:∀w1,Ext w w1→w1.heap.size=w.heap.size+1→OwnK k w.heap.size w1 e (.slice (some ⟨w.heap.size,0,Option.none⟩) 0 0) []→K (.slice (some ⟨w.heap.size,0,Option.none⟩) 0 0) w1):bsL P t 0 [] w K .mk:=by
 unfold bsL bsK
 have:bsC P t 0 []=some (e,#[]):=by simp[bsC,hu,hz,hs,hz1,Instr.fill]
 rw[this]
 exact h _ (Ext.alloc w _) (zax w _) ⟨⟨by simp,.inr ⟨w.heap.size,0,#[],rfl,Nat.le_refl _,zat w _,Nat.le_refl _,by decide,by simp,by simp⟩⟩,fun x h=>(by cases h),fun x h=>(by cases h)⟩
theorem zhN:∀(l:List Value) (n:Nat) (cells:Array Value),n+l.length≤cells.size→((l.zipIdx n).foldl (fun cs (x:Value×Nat)=>cs.setIfInBounds (0+x.2) x.1) cells).toList=cells.toList.take n++l++cells.toList.drop (n+l.length)
 | [],n,cells,_=>by simp
 |v::l,n,cells,h=>by
  simp only[List.length_cons]at h
  rw[List.zipIdx_cons,List.foldl_cons,zhN l (n+1) _ (by simp;omega)]
  rw[Nat.zero_add,Array.toList_setIfInBounds,List.take_set,List.drop_set_of_lt (by omega)]
  have hlt:n<cells.toList.length:=by simp;omega
  rw[zak hlt]
  have e1:(cells.toList.take n).length=n:=by rw[List.length_take];omega
  rw[List.set_append_right _ _ (by omega),e1,Nat.sub_self,List.set_cons_zero]
  simp[Nat.add_assoc,Nat.add_comm 1]
theorem fill_agg{l:List Value}{k:Nat}{cells:Array Value}(hl:l.length=k)(hc:cells.size=k):
  ∃r,Instr.fill (fun i=>some (i*k,k)) cells [(0,.agg l.toArray)]=some r∧r.toList=l:=by
 refine⟨(l.zipIdx 0).foldl (fun cs (x:Value×Nat)=>cs.setIfInBounds (0+x.2) x.1) cells,?_,?_⟩
 ·unfold Instr.fill
  have hcl:(Value.agg l.toArray).cells=l.toArray:=rfl
  have c1:(decide (l.toArray.size≠k)||decide (0*k+l.toArray.size>cells.size))=false:=by simp[hl,hc]
  simp only[hcl]
  rw[if_neg (by rw[c1];exact Bool.false_ne_true)]
  show some _=some _
  congr 1
  rw[Nat.zero_mul]
  simp[Array.foldl_toList,←Array.foldl_toList]
 ·rw[zhN l 0 cells (by omega)]
  simp[hl,hc]
theorem zm6{k:Nat}{t e:TypeId}{z:Value}{l:List Value}(hu:tyU P t=some (.slice e))(hz:tyZ P e=some z)(hs:tyS P e=k)(hz1:z.cells.size=k)(hl:l.length=k)(hk:k≤1000)(h1:∀q∈l,one q=true)
  (h:∀w1,Ext w w1→w1.heap.size=w.heap.size+1→OwnK k w.heap.size w1 e (.slice (some ⟨w.heap.size,0,Option.none⟩) 1 1) [l]→K (.slice (some ⟨w.heap.size,0,Option.none⟩) 1 1) w1):bsL P t 1 [(0,.agg l.toArray)] w K .mk:=by
 unfold bsL bsK
 obtain⟨r,hr1,hr2⟩:=fill_agg (cells:=(Array.range (1*k)).map (z.cells[· % z.cells.size]!)) hl (by simp)
 have:bsC P t 1 [(0,.agg l.toArray)]=some (e,r):=by
  unfold bsC
  rw[hu]
  simp only[hz,hs]
  have c1:(decide (1*k≤2 ^ 24) && decide (z.cells.size=k))=true:=by rw[hz1];simp;omega
  rw[c1,cond_true,hr1];rfl
 rw[this]
 have hsz:r.size=k:=by rw[←hl,←hr2];simp
 exact h _ (Ext.alloc w _) (zax w _) ⟨⟨by simp[hl],.inr ⟨w.heap.size,1,r,rfl,Nat.le_refl _,zat w _,Nat.le_refl _,by decide,by simpa using hsz,by rw[hr2];simp[←hl]⟩⟩,fun x h=>(by rw[List.mem_singleton.1 h];exact hl),fun x h=>(by rw[List.mem_singleton.1 h];exact h1)⟩
theorem ret_cell{fn:Func}{n:Nat}{σ:Sto}{R:Value→World→Prop}{e:Exit}(he:e= .normal∨e= .ret){t:Tmp}{tt:TypeId}{x:Addr}{l:List Value}(hl:fn.results.toList=[.cell t tt])(hm:fn.ntmps=n)(hv:ev n σ (.tmp t)= .pointer (some x))
  (hA:tyA P tt=true) {k:Nat} (hk:tyS P tt=k) (hc:zar w (some x) k=some l) (h:R (.agg l.toArray) w):retQ P fn R e σ [] w:=by
 subst hm hk
 refine zfI he hl (rs:=[.agg l.toArray]) ?_ h
 unfold resV
 rw[show (if t<fn.ntmps then σ t else undef)= .pointer (some x) from hv]
 have:ldV P w tt x=some (.agg l.toArray):=by
  unfold ldV
  rw[hA,cond_true,show zaQ w x 0 (tyS P tt)=some l from hc];rfl
 simp only[this,resV]
theorem zcl(w:World)(A B:Obj):Ext w ((w.alloc A).alloc B)∧((w.alloc A).alloc B).heap.size=w.heap.size+2∧((w.alloc A).alloc B).heap[w.heap.size]? =some A∧((w.alloc A).alloc B).heap[w.heap.size+1]? =some B:=by
 have s1:=zax w A
 have s2:=zax (w.alloc A) B
 have b1:=zat w A
 have b2:=zat (w.alloc A) B
 rw[s1]at s2 b2
 exact⟨(Ext.alloc w A).trans (Ext.alloc _ B),s2,(RowKit.Below.heap_alloc _ B _ (by rw[s1];omega)).trans b1,b2⟩
theorem zgc(w:World)(A B C:Obj):Ext w (((w.alloc A).alloc B).alloc C)∧(((w.alloc A).alloc B).alloc C).heap.size=w.heap.size+3∧(((w.alloc A).alloc B).alloc C).heap[w.heap.size]? =some A∧(((w.alloc A).alloc B).alloc C).heap[w.heap.size+1]? =some B∧(((w.alloc A).alloc B).alloc C).heap[w.heap.size+2]? =some C:=by
 obtain⟨h1,h2,h3,h4⟩:=zcl w A B
 have s3:=zax ((w.alloc A).alloc B) C
 have b3:=zat ((w.alloc A).alloc B) C
 rw[h2]at s3 b3
 exact⟨h1.trans (Ext.alloc _ C),s3,(RowKit.Below.heap_alloc _ C _ (by rw[h2];omega)).trans h3,(RowKit.Below.heap_alloc _ C _ (by rw[h2];omega)).trans h4,b3⟩
theorem eqIn_sl{t e:TypeId}(h:P.underlying t=some (.slice e))(n:Nat)(a:Option Addr)(l c:Nat):
  (Op.equalIn (n+1) t (.slice a l c) (.slice Option.none 0 0)).run P w= .ok a.isNone w:=by
 cases a<;>simp[Op.equalIn,underlying,program,Sem.run,h]
theorem zje{t e yt:TypeId}{x y:Operand}{a:Option Addr}{n c:Nat}(ht:tyU P t=some (.slice e))(hx:ρ x= .slice a n c)(hy:ρ y= .slice Option.none 0 0)(h:K (.bool a.isNone) w):
  opW P ⟨d,.binOp .eql t x y yt,ty,ps,af,g⟩ ρ w K:=by
 have h2:(Op.equal t (.slice a n c) (.slice Option.none 0 0)).run P w= .ok a.isNone w:=eqIn_sl (show P.underlying t=_ from ht) 9999 a n c
 have hr:(do eqGuard .eql t x y (.slice a n c) (.slice Option.none 0 0);binOp .eql t (.slice a n c) (.slice Option.none 0 0):Sem Value).run P w= .ok (.bool a.isNone) w:=by
  simp[eqGuard,binOp,h2]
 have:=zaC (P:=P) (K:=K) hr h
 rw[←hx,←hy]at this
 exact this
end
def minT(a b:RecL):RecL:={a with ttl:=min a.ttl b.ttl}
theorem zjp(w:World)(ca cb:List Value)(a b:RecL)(ha:RecAt w ca a)(hb:RecAt w cb b):
  Fn Tryz.prog 39 #[.agg ca.toArray,.agg cb.toArray] w (fun v w'=>v= .agg (ca.set 1 (v32 (min a.ttl b.ttl))).toArray∧Ext w w'):=by
 obtain⟨ow,ds,rfl,a1,a2⟩:=ha.ex
 obtain⟨ow2,ds2,rfl,b1,b2⟩:=hb.ex
 have a2':=a2
 obtain⟨nm,nu,tx,rw',rfl,n1,n2,n3,n4⟩:=a2.ex
 obtain⟨nm2,nu2,tx2,rw2,rfl,_⟩:=b2.ex
 refine enter Tryz.func39 Tryz.ntmps39 rfl rfl ?_
 repeat refine c_r ?_
 refine rg0 ?_
 repeat refine c_r ?_
 have hal:=zgc w (.cells #[ow,v32 a.ttl,vi a.dat.ty,nm,nu,tx,rw'] 49 (0,0)) (.cells #[ow2,v32 b.ttl,vi b.dat.ty,nm2,nu2,tx2,rw2] 49 (0,0)) (.cells #[.slice Option.none 0 0,v32 0,vi 0,.slice Option.none 0 0,.slice Option.none 0 0,.slice Option.none 0 0,.slice Option.none 0 0] 49 (0,0))
 rw[show (w.alloc (.cells #[ow,v32 a.ttl,vi a.dat.ty,nm,nu,tx,rw'] 49 (0,0))).heap.size=w.heap.size+1 from zax _ _,show((w.alloc (.cells #[ow,v32 a.ttl,vi a.dat.ty,nm,nu,tx,rw'] 49 (0,0))).alloc (.cells #[ow2,v32 b.ttl,vi b.dat.ty,nm2,nu2,tx2,rw2] 49 (0,0))).heap.size=w.heap.size+2 from(zcl w _ _).2.1]
 revert hal
 generalize ((w.alloc (.cells #[ow,v32 a.ttl,vi a.dat.ty,nm,nu,tx,rw'] 49 (0,0))).alloc (.cells #[ow2,v32 b.ttl,vi b.dat.ty,nm2,nu2,tx2,rw2] 49 (0,0))).alloc (.cells #[.slice Option.none 0 0,v32 0,vi 0,.slice Option.none 0 0,.slice Option.none 0 0,.slice Option.none 0 0,.slice Option.none 0 0] 49 (0,0))=w1
 rintro⟨hE,hs,hA,hB,hC⟩
 have p1:zad w1 (some ⟨w.heap.size,1,Option.none⟩)=some (v32 a.ttl):=zaa hA rfl
 have q1:zad w1 (some ⟨w.heap.size+1,1,Option.none⟩)=some (v32 b.ttl):=zaa hB rfl
 refine rq ?_;intro gd K hgd hK
 try simp (disch:=first|omega|assumption|rfl) only[go_sem,p1,q1,Nat.add_zero]
 refine zfN (by rfl) (by rfl) ?_
 try simp only[go_sem]
 refine zaq rfl rfl rfl hA (by simp) (by simp) ?_
 intro w2 hs2 hb2 hk2
 try simp only[go_sem]
 refine hK _ _ ?_;clear hK hgd;clear K;try clear gd
 repeat refine c_r ?_
 have hE2:Ext w w2:=Keep.to_ext hE rfl (fun i hi=>by omega) hk2
 have r7:zar w2 (some ⟨w.heap.size,0,Option.none⟩) 7=some [ow,v32 (min a.ttl b.ttl),vi a.dat.ty,nm,nu,tx,rw']:=zay hb2 (Nat.le_refl 7)
 have hC2:=(hk2.block _ (Array.getElem?_eq_some_iff.1 hC).1 (by omega)).trans hC
 refine rq ?_;intro gd K hgd hK
 try simp (disch:=first|omega|assumption|rfl) only[go_sem,r7]
 have hSD:SD 7 w2 (w.heap.size+2) 49 1 [[.slice Option.none 0 0,v32 0,vi 0,.slice Option.none 0 0,.slice Option.none 0 0,.slice Option.none 0 0,.slice Option.none 0 0]]:=
  ⟨⟨_,[],hC2,rfl,rfl⟩,fun x h=>(by rw[List.mem_singleton.1 h];rfl),fun x h v hv=>(by rw[List.mem_singleton.1 h]at hv;simp at hv;rcases hv with rfl|rfl|rfl|rfl<;>rfl)⟩
 have hone:∀q∈ [ow,v32 (min a.ttl b.ttl),vi a.dat.ty,nm,nu,tx,rw'],one q=true:=by
  obtain⟨o1,o2,rfl,_⟩:=a1
  obtain⟨_,⟨o3,o4,rfl,_⟩,_⟩:=n1
  obtain⟨o5,o6,rfl,_⟩:=n2
  obtain⟨o7,o8,rfl,_⟩:=n3
  obtain⟨o9,o10,rfl,_⟩:=n4
  intro q hq
  simp at hq
  rcases hq with rfl|rfl|rfl|rfl|rfl|rfl|rfl<;>rfl
 refine SD.set (P:=Tryz.prog) (t:=49) hSD (j:=0) (by simp) (x:=[ow,v32 (min a.ttl b.ttl),vi a.dat.ty,nm,nu,tx,rw']) rfl hone rfl rfl ?_
 intro w3 hs3 hL3 hk3
 try simp only[go_sem]
 refine hK _ _ ?_;clear hK hgd;clear K;try clear gd
 repeat refine c_r ?_
 have hE3:Ext w w3:=Keep.to_ext hE2 rfl (fun i hi=>by omega) hk3
 have r9:=hL3.get (j:=0) (by simp)
 refine ret_cell (by simp) rfl Tryz.ntmps39 (vq0) rfl rfl r9 ?_
 exact⟨rfl,hE3⟩
theorem RecAt.minT{w:World}{ca:List Value}{a b:RecL}(h:RecAt w ca a):RecAt w (ca.set 1 (v32 (min a.ttl b.ttl))) (minT a b):=by
 obtain⟨ow,ds,rfl,h1,h2⟩:=h.ex
 exact⟨ow,ds,rfl,h1,h2⟩
section
variable {α : Type}
theorem zlH(A B:List α)(x y:α):(A++x::B).set A.length y=A++y::B:=by
 rw[List.set_append_right _ _ (Nat.le_refl _),Nat.sub_self,List.set_cons_zero]
theorem zcz(A B:List α)(x:α):(A++x::B)[A.length]? =some x:=by simp
theorem zfi(A M B:List α)(x y:α){i j:Nat}(hi:i=A.length)(hj:j=A.length+1+M.length):((A++x::M++y::B).set i y).set j x=A++y::M++x::B:=by
 subst hi hj
 have e1:(A++x::M++y::B).set A.length y=A++y::M++y::B:=by
  have:=zlH A (M++y::B) x y
  simpa using this
 rw[e1]
 have:=zlH (A++y::M) B y x
 rwa [show (A++y::M).length=A.length+1+M.length from by simp;omega]at this
def zb4(A X M Y B:List α)(i:Nat):List α:=A++(Y.take i++X.drop i)++M++(X.take i++Y.drop i)++B
theorem ziX{A X M Y B:List α}{i:Nat}(hX:i<X.length)(hY:i<Y.length):
  ((zb4 A X M Y B i).set (A.length+i) Y[i]).set (A.length+X.length+M.length+i) X[i]=zb4 A X M Y B (i+1)∧
  (zb4 A X M Y B i)[A.length+i]? =some X[i]∧(zb4 A X M Y B i)[A.length+X.length+M.length+i]? =some Y[i]:=by
 have e0:zb4 A X M Y B i=(A++Y.take i)++X[i]::(X.drop (i+1)++M++X.take i)++Y[i]::(Y.drop (i+1)++B):=by
  unfold zb4
  rw[List.drop_eq_getElem_cons hX,List.drop_eq_getElem_cons hY]
  simp only[List.append_assoc,List.cons_append]
 have l1:(A++Y.take i).length=A.length+i:=by simp;omega
 have l2:(X.drop (i+1)++M++X.take i).length=X.length - (i+1)+M.length+i:=by simp;omega
 refine⟨?_,?_,?_⟩
 ·rw[e0,zfi (A++Y.take i) _ _ X[i] Y[i] (by omega) (by omega)]
  unfold zb4
  rw[zak hX,zak hY]
  simp only[List.append_assoc,List.cons_append,List.nil_append]
 ·rw[e0,←l1,List.append_assoc]
  have:=zcz (A++Y.take i) (X.drop (i+1)++M++X.take i++Y[i]::(Y.drop (i+1)++B)) X[i]
  simpa using this
 ·rw[e0]
  have:=zcz (A++Y.take i++X[i]::(X.drop (i+1)++M++X.take i)) (Y.drop (i+1)++B) Y[i]
  rw[show (A++Y.take i++X[i]::(X.drop (i+1)++M++X.take i)).length=A.length+X.length+M.length+i from by rw[List.length_append,List.length_cons,l1,l2];omega]at this
  exact this
theorem zkw{A X M Y B:List α}{n:Nat}(hX:X.length=n)(hY:Y.length=n):zb4 A X M Y B n=A++Y++M++X++B:=by
 unfold zb4
 rw[List.take_of_length_le (by omega),List.take_of_length_le (by omega),List.drop_of_length_le (by omega),List.drop_of_length_le (by omega)]
 simp
theorem zhM(A X M Y B:List α):zb4 A X M Y B 0=A++X++M++Y++B:=by simp[zb4]
theorem zkv{A X M Y B:List α}{i:Nat}(hi:i≤X.length)(h:X.length=Y.length):(zb4 A X M Y B i).length=(A++X++M++Y++B).length:=by
 simp[zb4];omega
end
structure ziL{α:Type}(cf:α→α→Int)(lt older:α→α→Prop):Prop where
 trans:∀{a b c},lt a b→lt b c→lt a c
 less:∀{x y},older x y→cf y x<0→lt y x
 more:∀{x y},older x y→¬cf y x<0→lt x y
section
variable {α : Type} {lt : α → α → Prop}
theorem zjH{l:List α}(h:l.Pairwise lt){i j:Nat}{x y:α}(hx:l[i]? =some x)(hy:l[j]? =some y)(hij:i<j):lt x y:=by
 obtain⟨h1,rfl⟩:=List.getElem?_eq_some_iff.1 hx
 obtain⟨h2,rfl⟩:=List.getElem?_eq_some_iff.1 hy
 exact List.pairwise_iff_getElem.1 h i j h1 h2 hij
structure Cut(lt:α→α→Prop)(x:α)(Y:List α)(s e:Nat):Prop where
 lo:∀i y,i<s→Y[i]? =some y→lt y x
 hi:∀i y,e≤i→Y[i]? =some y→lt x y
theorem Cut.start(x:α)(Y:List α):Cut lt x Y 0 Y.length:=
 ⟨fun i y h=>absurd h (Nat.not_lt_zero _),fun i y h hy=>by rw[List.getElem?_eq_none h]at hy;cases hy⟩
theorem Cut.up{x:α}{Y:List α}{s e h:Nat}{y:α}(ht:∀{a b c},lt a b→lt b c→lt a c)(hY:Y.Pairwise lt)(hc:Cut lt x Y s e)(hy:Y[h]? =some y)(hl:lt y x):Cut lt x Y (h+1) e:=
 ⟨fun i z hi hz=>by
  by_cases hih:i=h
  ·subst hih;rw[hy]at hz;cases hz;exact hl
  ·exact ht (zjH hY hz hy (by omega)) hl,hc.hi⟩
theorem Cut.down{x:α}{Y:List α}{s e h:Nat}{y:α}(ht:∀{a b c},lt a b→lt b c→lt a c)(hY:Y.Pairwise lt)(hc:Cut lt x Y s e)(hy:Y[h]? =some y)(hl:lt x y):Cut lt x Y s h:=
 ⟨hc.lo,fun i z hi hz=>by
  by_cases hih:i=h
  ·subst hih;rw[hy]at hz;cases hz;exact hl
  ·exact ht hl (zjH hY hy hz (by omega))⟩
theorem Cut.sorted{x:α}{Y:List α}{s:Nat}(ht:∀{a b c},lt a b→lt b c→lt a c)(hY:Y.Pairwise lt)(hc:Cut lt x Y s s):(Y.take s++x::Y.drop s).Pairwise lt:=by
 rw[List.pairwise_append]
 have h1:∀y∈Y.take s,lt y x:=fun y hy=>by
  obtain⟨i,hi,rfl⟩:=List.getElem_of_mem hy
  have hi':=hi
  rw[List.length_take]at hi'
  refine hc.lo i _ (by omega) ?_
  rw[List.getElem_take,List.getElem?_eq_getElem]
 have h2:∀y∈Y.drop s,lt x y:=fun y hy=>by
  obtain⟨i,hi,rfl⟩:=List.getElem_of_mem hy
  have hi':=hi
  rw[List.length_drop]at hi'
  refine hc.hi (s+i) _ (by omega) ?_
  rw[List.getElem_drop,List.getElem?_eq_getElem]
 refine⟨hY.sublist (List.take_sublist _ _),List.pairwise_cons.2 ⟨h2,hY.sublist (List.drop_sublist _ _)⟩,fun y hy z hz=>?_⟩
 rcases List.mem_cons.1 hz with rfl|hz
 ·exact h1 y hy
 ·exact ht (h1 y hy) (h2 z hz)
theorem cross{X Y:List α}{s t:Nat}(ht:∀{a b c},lt a b→lt b c→lt a c)(hX:X.Pairwise lt)(hY:Y.Pairwise lt)
  (h:s=0∨t=Y.length∨∃x y,X[s - 1]? =some x∧Y[t]? =some y∧lt x y):∀x∈X.take s,∀y∈Y.drop t,lt x y:=by
 intro x hx y hy
 obtain⟨i,hi,rfl⟩:=List.getElem_of_mem hx
 obtain⟨j,hj,rfl⟩:=List.getElem_of_mem hy
 rw[List.length_take]at hi
 rw[List.length_drop]at hj
 rcases h with h|h| ⟨u,v,hu,hv,huv⟩
 ·omega
 ·omega
 ·rw[List.getElem_take,List.getElem_drop]
  have gx:X[i]? =some X[i]:=List.getElem?_eq_getElem (by omega)
  have gy:Y[t+j]? =some Y[t+j]:=List.getElem?_eq_getElem (by omega)
  have h1:lt X[i] v:=by
   by_cases hi1:i=s - 1
   ·subst hi1;rw[hu]at gx;cases gx;exact huv
   ·exact ht (zjH hX gx hu (by omega)) huv
  rcases Nat.eq_zero_or_pos j with hj0|hj0
  ·have gv:Y[t+j]? =some v:=by rw[hj0];exact hv
   rw[gy]at gv
   rw[Option.some.inj gv];exact h1
  ·exact ht h1 (zjH hY hv gy (by omega))
theorem ziY{X1 X2 Y1 Y2 Z1 Z2:List α}(hX:(X1++X2).Pairwise lt)(hY:(Y1++Y2).Pairwise lt)(c1:∀x∈X1,∀y∈Y2,lt x y)(c2:∀y∈Y1,∀x∈X2,lt y x)
  (p1:Z1.Perm (X1++Y1)) (p2:Z2.Perm (X2++Y2)) (s1:Z1.Pairwise lt) (s2:Z2.Pairwise lt):(Z1++Z2).Pairwise lt∧(Z1++Z2).Perm ((X1++X2)++(Y1++Y2)):=by
 rw[List.pairwise_append]at hX hY
 constructor
 ·rw[List.pairwise_append]
  refine⟨s1,s2,fun a ha b hb=>?_⟩
  rcases List.mem_append.1 (p1.mem_iff.1 ha) with ha|ha
  ·rcases List.mem_append.1 (p2.mem_iff.1 hb) with hb|hb
   ·exact hX.2.2 a ha b hb
   ·exact c1 a ha b hb
  ·rcases List.mem_append.1 (p2.mem_iff.1 hb) with hb|hb
   ·exact c2 a ha b hb
   ·exact hY.2.2 a ha b hb
 ·refine(p1.append p2).trans ?_
  rw[List.append_assoc,List.append_assoc]
  refine List.Perm.append_left X1 ?_
  rw[←List.append_assoc,←List.append_assoc]
  exact List.Perm.append_right Y2 List.perm_append_comm
end
structure Cpr{α:Type}(cf:α→α→Int):Prop where
 neg:∀a b,cf b a= - cf a b
 trans:∀{a b c},cf a b<0→cf b c<0→cf a c<0
 eql:∀{a b c},cf a b=0→cf a c=cf b c
section
variable {α β : Type}
theorem Cpr.eqr{cf:α→α→Int}(h:Cpr cf){a b c:α}(e:cf a b=0):cf c a=cf c b:=by
 have h1:=h.neg a c
 have h2:=h.neg b c
 have h3:=h.eql (c:=c) e
 omega
theorem Cpr.map{cf:β→β→Int}(h:Cpr cf)(f:α→β):Cpr (fun a b=>cf (f a) (f b)):=⟨fun a b=>h.neg _ _,fun h1 h2=>h.trans h1 h2,fun e=>h.eql e⟩
theorem Cpr.const:Cpr (fun _ _:α=>0):=⟨fun _ _=>rfl,fun h _=>absurd h (by decide),fun _=>rfl⟩
theorem Cpr.or{c1 c2:α→α→Int}(h1:Cpr c1)(h2:Cpr c2):Cpr (fun a b=>if c1 a b=0 then c2 a b else c1 a b):=by
 refine⟨fun a b=>?_,fun {a b c} g1 g2=>?_,fun {a b c} e=>?_⟩
 ·have n1:=h1.neg a b
  have n2:=h2.neg a b
  (repeat' split)<;>omega
 ·by_cases e1:c1 a b=0
  ·rw[if_pos e1]at g1
   have e3:=h1.eql (c:=c) e1
   by_cases e2:c1 b c=0
   ·rw[if_pos e2]at g2
    rw[if_pos (by omega)]
    exact h2.trans g1 g2
   ·rw[if_neg e2]at g2
    rw[if_neg (by omega)];omega
  ·rw[if_neg e1]at g1
   by_cases e2:c1 b c=0
   ·have e3:=h1.eqr (c:=a) e2
    rw[if_neg (by omega)];omega
   ·rw[if_neg e2]at g2
    have:=h1.trans g1 g2
    rw[if_neg (by omega)];exact this
 ·by_cases e1:c1 a b=0
  ·rw[if_pos e1]at e
   rw[h1.eql (c:=c) e1,h2.eql (c:=c) e]
  ·rw[if_neg e1]at e;exact absurd e e1
theorem zmm{cf:α→α→Int}(h:Cpr cf):∀a b:List α,lexC cf b a= - lexC cf a b
 | [],[]=>rfl
 | [],_::_=>rfl
 |_::_,[]=>rfl
 |x::l,y::m=>by
  simp only[lexC]
  have n1:=h.neg x y
  have n2:=zmm h l m
  split<;>split<;>omega
theorem zie{cf:α→α→Int}(h:Cpr cf):∀{a b c:List α},lexC cf a b<0→lexC cf b c<0→lexC cf a c<0
 | [],[],_,h1,_=>absurd h1 (by simp[lexC])
 |_,[],[],_,h2=>absurd h2 (by simp[lexC])
 |_,_::_,[],_,h2=>absurd h2 (by simp[lexC])
 |_::_,[],_::_,h1,_=>absurd h1 (by simp[lexC])
 | [],_::_,_::_,_,_=>by simp[lexC]
 |x::l,y::m,z::n,g1,g2=>by
  simp only[lexC]at g1 g2 ⊢
  by_cases e1:cf x y=0
  ·rw[if_pos e1]at g1
   have e3:=h.eql (c:=z) e1
   by_cases e2:cf y z=0
   ·rw[if_pos e2]at g2
    rw[if_pos (by omega)]
    exact zie h g1 g2
   ·rw[if_neg e2]at g2
    rw[if_neg (by omega)];omega
  ·rw[if_neg e1]at g1
   by_cases e2:cf y z=0
   ·have e3:=h.eqr (c:=x) e2
    rw[if_neg (by omega)];omega
   ·rw[if_neg e2]at g2
    have:=h.trans g1 g2
    rw[if_neg (by omega)];exact this
theorem zmn{cf:α→α→Int}(h:Cpr cf):∀{a b:List α} (c:List α),lexC cf a b=0→lexC cf a c=lexC cf b c
 | [],[],_,_=>rfl
 | [],_::_,_,h1=>absurd h1 (by simp[lexC])
 |_::_,[],_,h1=>absurd h1 (by simp[lexC])
 |_::_,_::_,[],_=>rfl
 |x::l,y::m,z::n,e=>by
  simp only[lexC]at e ⊢
  by_cases e1:cf x y=0
  ·rw[if_pos e1]at e
   rw[h.eql (c:=z) e1,zmn h n e]
  ·rw[if_neg e1]at e;exact absurd e e1
theorem Cpr.lex{cf:α→α→Int}(h:Cpr cf):Cpr (lexC cf):=⟨zmm h,zie h,fun e=>zmn h _ e⟩
theorem cpr_I:Cpr cmpI:=by
 refine⟨fun a b=>?_,fun {a b c} h1 h2=>?_,fun {a b c} e=>?_⟩
 ·simp only[cmpI];(repeat' split)<;>omega
 ·simp only[cmpI]at*;(repeat' split at h1)<;>(repeat' split at h2)<;>(repeat' split)<;>omega
 ·have:a=b:=by simp only[cmpI]at e;(repeat' split at e)<;>omega
  rw[this]
theorem cpr_N:Cpr cmpN:=⟨fun a b=>cmpN_neg a b,fun h1 h2=>zk1 h1 h2,fun e=>by rw[zmZ e]⟩
theorem cpr_F2:Cpr zcG:=cpr_N.map zaB
theorem cpr_L:Cpr cmpL:=⟨fun a b=>zft a b,fun h1 h2=>zeA h1 (by omega),fun e=>by rw[zcF e]⟩
theorem cpr_D:Cpr cmpD:=by
 have h:=(cpr_I.map DatL.ty).or ((cpr_F2.lex.map DatL.names).or ((cpr_I.lex.map DatL.nums).or ((cpr_L.lex.map DatL.texts).or ((cpr_L.map DatL.raw).or Cpr.const))))
 exact h
theorem cpr_R:Cpr zaA:=by
 have h:=(cpr_F2.map RecL.owner).or ((cpr_I.map fun r:RecL=>r.dat.ty).or ((cpr_D.map RecL.dat).or Cpr.const))
 exact h
end
section
variable {α : Type} (cf : α → α → Int) (jn : α → α → α)
def putC(r:α):List α→List α
 | []=>[r]
 |x::l=>if cf x r<0 then x::putC r l else if cf x r=0 then jn x r::l else r::x::l
variable {cf jn}
structure Join(cf:α→α→Int)(jn:α→α→α):Prop where
 same:∀a b c,cf a b=0→cf (jn a b) c=cf a c
theorem zei{Q:α→Prop}{r:α}{l:List α}(hj:∀x,Q x→cf x r=0→Q (jn x r))(hr:Q r)(hl:∀x∈l,Q x):∀x∈putC cf jn r l,Q x:=by
 induction l with
 |nil=>intro x hx;rw[List.mem_singleton.1 hx];exact hr
 |cons y l ih=>
  intro x hx
  unfold putC at hx
  split at hx
  ·rcases List.mem_cons.1 hx with rfl|hx
   ·exact hl _ (List.mem_cons_self ..)
   ·exact ih (fun z hz=>hl z (List.mem_cons_of_mem _ hz)) x hx
  ·split at hx
   ·rename_i h0
    rcases List.mem_cons.1 hx with rfl|hx
    ·exact hj y (hl y (List.mem_cons_self ..)) h0
    ·exact hl x (List.mem_cons_of_mem _ hx)
   ·rcases List.mem_cons.1 hx with rfl|hx
    ·exact hr
    ·exact hl x hx
theorem zcQ(hc:Cpr cf)(hj:Join cf jn){r:α}:∀{l:List α},l.Pairwise (fun a b=>cf a b<0)→(putC cf jn r l).Pairwise (fun a b=>cf a b<0)
 | [],_=>List.pairwise_singleton _ _
 |y::l,h=>by
  obtain⟨h1,h2⟩:=List.pairwise_cons.1 h
  unfold putC
  split
  ·rename_i hy
   refine List.pairwise_cons.2 ⟨?_,zcQ hc hj h2⟩
   refine zei (Q:=fun x=>cf y x<0) (fun x hx h0=>?_) hy h1
   have:=hj.same x r y h0
   have n1:=hc.neg y (jn x r)
   have n2:=hc.neg y x
   omega
  ·split
   ·rename_i h0
    refine List.pairwise_cons.2 ⟨fun x hx=>?_,h2⟩
    rw[hj.same y r x h0];exact h1 x hx
   ·rename_i g1 g2
    refine List.pairwise_cons.2 ⟨fun x hx=>?_,h⟩
    have n1:=hc.neg y r
    have hry:cf r y<0:=by omega
    rcases List.mem_cons.1 hx with rfl|hx
    ·exact hry
    ·exact hc.trans hry (h1 x hx)
theorem zhY(hc:Cpr cf)(hj:Join cf jn){a b:α}(hab:cf a b<0):∀(l:List α),l.Pairwise (fun a b=>cf a b<0)→putC cf jn a (putC cf jn b l)=putC cf jn b (putC cf jn a l)
 | [],_=>by
  have n1:=hc.neg a b
  simp only[putC]
  rw[if_neg (by omega),if_neg (by omega),if_pos hab]
 |x::l,h=>by
  obtain⟨h1,h2⟩:=List.pairwise_cons.1 h
  have n1:=hc.neg a b
  have n2:=hc.neg x a
  have n3:=hc.neg x b
  by_cases ea:cf x a<0
  ·have eb:cf x b<0:=hc.trans ea hab
   simp only[putC,if_pos ea,if_pos eb]
   rw[zhY hc hj hab l h2]
  ·by_cases ea0:cf x a=0
   ·have eb:cf x b<0:=by rw[hc.eql (c:=b) ea0];exact hab
    have e2:=hj.same x a b ea0
    have e3:=hj.same x a a ea0
    simp only[putC]
    rw[if_pos eb,if_neg ea,if_pos ea0]
    simp only[putC]
    rw[if_neg ea,if_pos ea0,if_pos (by omega)]
   ·by_cases eb:cf x b<0
    ·simp only[putC]
     rw[if_pos eb,if_neg ea,if_neg ea0]
     simp only[putC]
     rw[if_neg ea,if_neg ea0,if_pos hab,if_pos eb]
    ·by_cases eb0:cf x b=0
     ·have e2:=hj.same x b a eb0
      simp only[putC]
      rw[if_neg eb,if_pos eb0,if_neg ea,if_neg ea0]
      simp only[putC]
      rw[if_neg (by omega),if_neg (by omega),if_pos hab,if_neg eb,if_pos eb0]
     ·simp only[putC]
      rw[if_neg eb,if_neg eb0,if_neg ea,if_neg ea0]
      simp only[putC]
      rw[if_neg (by omega),if_neg (by omega),if_pos hab,if_neg eb,if_neg eb0]
end
section
variable {α β : Type} {cf : α → α → Int} {jn : α → α → α}
def zdd(cf:α→α→Int)(jn:α→α→α)(p:β→α)(l:List β)(acc:List α):List α:=l.foldl (fun acc r=>putC cf jn (p r) acc) acc
theorem zgG(hc:Cpr cf)(hj:Join cf jn){p:β→α}{r:β}{Z2:List β}:∀(Z1:List β) (acc:List α),(∀z∈Z1,cf (p z) (p r)<0)→acc.Pairwise (fun a b=>cf a b<0)→
  zdd cf jn p (Z1++r::Z2) acc=zdd cf jn p (Z1++Z2) (putC cf jn (p r) acc)
 | [],_,_,_=>rfl
 |z::Z1,acc,h,hs=>by
  have ih:=zgG hc hj (p:=p) (r:=r) (Z2:=Z2) Z1 (putC cf jn (p z) acc) (fun y hy=>h y (List.mem_cons_of_mem _ hy)) (zcQ hc hj hs)
  have hcm:=zhY hc hj (h z (List.mem_cons_self ..)) acc hs
  show zdd cf jn p (Z1++r::Z2) (putC cf jn (p z) acc)=zdd cf jn p (Z1++Z2) (putC cf jn (p z) (putC cf jn (p r) acc))
  rw[ih,hcm]
theorem ze3(hc:Cpr cf)(hj:Join cf jn){p:β→α}{lt older:β→β→Prop}(hlt:∀{a b},lt a b→cf (p a) (p b)<0∨older a b)(has:∀{a b},older a b→¬older b a):
  ∀(D Z:List β) (acc:List α),D.Pairwise older→Z.Pairwise lt→Z.Perm D→acc.Pairwise (fun a b=>cf a b<0)→zdd cf jn p Z acc=zdd cf jn p D acc
 | [],Z,acc,_,_,hp,_=>by rw[hp.eq_nil]
 |r::D,Z,acc,hD,hZ,hp,hs=>by
  obtain⟨d1,d2⟩:=List.pairwise_cons.1 hD
  obtain⟨Z1,Z2,rfl⟩:=List.append_of_mem (hp.mem_iff.2 (List.mem_cons_self ..))
  have hp2:(Z1++Z2).Perm D:=(List.perm_middle.symm.trans hp).cons_inv
  obtain⟨z1,z2,z3⟩:=List.pairwise_append.1 hZ
  have hb:∀z∈Z1,cf (p z) (p r)<0:=fun z hz=>by
   rcases hlt (z3 z hz r (List.mem_cons_self ..)) with h|h
   ·exact h
   ·exact absurd h (has (d1 z (hp2.mem_iff.1 (List.mem_append_left _ hz))))
  rw[zgG hc hj Z1 acc hb hs]
  refine ze3 (lt:=lt) (older:=older) hc hj hlt has D (Z1++Z2) (putC cf jn (p r) acc) d2 ?_ hp2 (zcQ hc hj hs)
  exact List.pairwise_append.2 ⟨z1,(List.pairwise_cons.1 z2).2,fun a ha b hb=>z3 a ha b (List.mem_cons_of_mem _ hb)⟩
theorem zhX{r x:α}:∀{O:List α},(∀y∈O,cf y r<0)→¬0<cf x r→putC cf jn r (O++ [x])=if cf x r=0 then O++ [jn x r] else O++ [x,r]
 | [],_,h=>by
  simp only[List.nil_append,putC]
  by_cases h0:cf x r=0
  ·rw[if_neg (by omega),if_pos h0,if_pos h0]
  ·rw[if_pos (by omega),if_neg h0]
 |y::O,hO,h=>by
  have hy:=hO y (List.mem_cons_self ..)
  have ih:=zhX (r:=r) (x:=x) (O:=O) (fun z hz=>hO z (List.mem_cons_of_mem _ hz)) h
  simp only[List.cons_append,putC]
  rw[if_pos hy,ih]
  split<;>rfl
end
/-! ### records -/
def zbw(l:List RecL):List RecL:=zdd zaA (fun a b=>{a with ttl:=min a.ttl b.ttl}) (fun r=>r) l []
theorem join_R:Join zaA (fun a b=>{a with ttl:=min a.ttl b.ttl}):=⟨fun _ _ _ _=>rfl⟩
section
variable {α : Type}
def Rows(k:Nat)(C:List Value→α→Prop)(w:World)(v:Value)(xs:List α):Prop:=∃L,RowK k w v L∧L.length=xs.length∧∀i (h:i<L.length) (h':i<xs.length),C L[i] xs[i]
def Owns(k:Nat)(C:List Value→α→Prop)(B:Nat)(w:World)(e:TypeId)(v:Value)(xs:List α):Prop:=∃L,OwnK k B w e v L∧L.length=xs.length∧∀i (h:i<L.length) (h':i<xs.length),C L[i] xs[i]
structure zgf(k:Nat)(C:List Value→α→Prop):Prop where
 len:∀{cs:List Value} {a:α},C cs a→cs.length=k
 ones:∀{cs:List Value} {a:α},C cs a→∀q∈cs,one q=true
variable {k B : Nat} {C C' : List Value → α → Prop} {w x : World} {v : Value} {xs : List α} {e : TypeId}
theorem Rows.ext(h:Rows k C w v xs)(hE:Ext w x):Rows k C x v xs:=by
 obtain⟨L,h1,h2,h3⟩:=h
 exact⟨L,h1.ext hE,h2,h3⟩
theorem Rows.to(h:Rows k C w v xs)(hC:∀cs a,C cs a→C' cs a):Rows k C' w v xs:=by
 obtain⟨L,h1,h2,h3⟩:=h
 exact⟨L,h1,h2,fun i h h'=>hC _ _ (h3 i h h')⟩
theorem Owns.ext(h:Owns k C B w e v xs)(hE:Ext w x):Owns k C B x e v xs:=by
 obtain⟨L,h1,h2,h3⟩:=h
 exact⟨L,h1.ext hE,h2,h3⟩
theorem Owns.keep{S:Nat→Prop}(h:Owns k C B w e v xs)(hk:Keep S w x)(hS:∀b,some b=v.ownBlock→¬S b):Owns k C B x e v xs:=by
 obtain⟨L,h1,h2,h3⟩:=h
 exact⟨L,h1.keep hk hS,h2,h3⟩
theorem Owns.rows(h:Owns k C B w e v xs):Rows k C w v xs:=by
 obtain⟨L,h1,h2,h3⟩:=h
 exact⟨L,h1.rowK,h2,h3⟩
theorem Owns.nil(k:Nat)(C:List Value→α→Prop)(B:Nat)(w:World)(e:TypeId):Owns k C B w e (.slice Option.none 0 0) []:=⟨[],OwnK.nil _ _ _ _,rfl,fun i h=>absurd h (by simp)⟩
theorem Rows.nil(k:Nat)(C:List Value→α→Prop)(w:World):Rows k C w (.slice Option.none 0 0) []:=(Owns.nil k C 0 w 0).rows
theorem Owns.mono{B':Nat}(h:Owns k C B w e v xs)(hB:B'≤B):Owns k C B' w e v xs:=by
 obtain⟨L,h1,h2,h3⟩:=h
 exact⟨L,OwnK.mono h1 hB,h2,h3⟩
theorem Owns.ge(h:Owns k C B w e v xs){b:Nat}(hb:some b=v.ownBlock):B≤b∧b<w.heap.size:=by
 obtain⟨L,h1,_⟩:=h
 exact h1.ge hb
theorem Rows.open(h:Rows k C w v xs):∃a c,v= .slice a xs.length c∧xs.length≤c∧∀i (h:i<xs.length),∃cs,zar w (adr a (i*k)) k=some cs∧C cs xs[i]:=by
 obtain⟨L,⟨a,c,rfl,hc,hg⟩,h2,h3⟩:=h
 refine⟨a,c,by rw[h2],by omega,fun i hi=>⟨L[i]'(by omega),hg i (by omega),h3 i (by omega) hi⟩⟩
theorem zjS{D:Nat→List Value→Prop}:∀(m:Nat),(∀i,i<m→∃cs,D i cs)→∃L:List (List Value),L.length=m∧∀i (h:i<L.length),D i L[i]
 |0,_=>⟨[],rfl,fun i h=>absurd h (by simp)⟩
 |m+1,h=>by
  obtain⟨L,hl,hL⟩:=zjS m (fun i hi=>h i (by omega))
  obtain⟨cs,h1⟩:=h m (by omega)
  refine⟨L++ [cs],by simp[hl],fun i hi=>?_⟩
  by_cases he:i<L.length
  ·rw[List.getElem_append_left he];exact hL i he
  ·have hi0:i=L.length:=by simp at hi;omega
   have e1:(L++ [cs])[i]=cs:=by simp[hi0]
   rw[e1,hi0,hl];exact h1
theorem Rows.close{a:Option Addr}{c:Nat}(hc:xs.length≤c)(h:∀i (h:i<xs.length),∃cs,zar w (adr a (i*k)) k=some cs∧C cs xs[i]):Rows k C w (.slice a xs.length c) xs:=by
 obtain⟨L,hl,hL⟩:=zjS (D:=fun i cs=>∀h:i<xs.length,zar w (adr a (i*k)) k=some cs∧C cs xs[i]) xs.length (fun i hi=>by
  obtain⟨cs,h1⟩:=h i hi
  exact⟨cs,fun _=>h1⟩)
 exact⟨L,⟨a,c,by rw[hl],by omega,fun i hi=>(hL i hi (by omega)).1⟩,hl,fun i h h'=>(hL i h h').2⟩
theorem all_app{L M:List (List Value)}{ys:List α}(hl:L.length=xs.length)(hm:M.length=ys.length)(h:∀q (h:q<L.length) (h':q<xs.length),C L[q] xs[q])(hM:∀q (h:q<M.length) (h':q<ys.length),C M[q] ys[q]):
  ∀q (h:q<(L++M).length) (h':q<(xs++ys).length),C (L++M)[q] (xs++ys)[q]:=by
 intro q h1 h2
 by_cases hq:q<L.length
 ·rw[List.getElem_append_left hq,List.getElem_append_left (by omega)];exact h q hq (by omega)
 ·have e1:(L++M)[q]=M[q - L.length]'(by simp at h1;omega):=List.getElem_append_right (by omega)
  have e2:(xs++ys)[q]=ys[q - L.length]'(by simp at h2;omega):=by rw[List.getElem_append_right (by omega)];simp[hl]
  rw[e1,e2];exact hM _ _ _
theorem Rows.drop{a:Option Addr}{c n:Nat}(h:Rows k C w (.slice a n c) xs){m:Nat}(hm:m≤n):Rows k C w (.slice (if c=m then a else adr a (m*k)) (n - m) (c - m)) (xs.drop m):=by
 obtain⟨a',c',hv',hc,hg⟩:=h.open
 have e1:a=a':=by injection hv'
 have e2:n=xs.length:=by injection hv'
 have e3:c=c':=by injection hv'
 subst e1 e2 e3
 rw[show xs.length - m=(xs.drop m).length from(List.length_drop ..).symm]
 refine Rows.close (by rw[List.length_drop];omega) (fun i hi=>?_)
 rw[List.length_drop]at hi
 obtain⟨cs,h1,h2⟩:=hg (m+i) (by omega)
 refine⟨cs,?_,by rw[List.getElem_drop];exact h2⟩
 rw[if_neg (by omega),zeY,←Nat.add_mul];exact h1
theorem Rows.take{a:Option Addr}{c n:Nat}(h:Rows k C w (.slice a n c) xs){m c2:Nat}(hm:m≤n)(hc2:m≤c2):Rows k C w (.slice a m c2) (xs.take m):=by
 obtain⟨a',c',hv',hc,hg⟩:=h.open
 have e1:a=a':=by injection hv'
 have e2:n=xs.length:=by injection hv'
 subst e1 e2
 have hl:(xs.take m).length=m:=by rw[List.length_take];omega
 have:=Rows.close (k:=k) (C:=C) (w:=w) (a:=a) (c:=c2) (xs:=xs.take m) (by omega) (fun i hi=>by
  rw[hl]at hi
  obtain⟨cs,h1,h2⟩:=hg i (by omega)
  exact⟨cs,h1,by rw[List.getElem_take];exact h2⟩)
 rwa [hl]at this
theorem Rows.len{a:Option Addr}{c n:Nat}(h:Rows k C w (.slice a n c) xs):n=xs.length∧xs.length≤c:=by
 obtain⟨a',c',hv',hc,hg⟩:=h.open
 have e2:n=xs.length:=by injection hv'
 have e3:c=c':=by injection hv'
 exact⟨e2,by omega⟩
theorem Rows.get{a:Option Addr}{c n:Nat}(h:Rows k C w (.slice a n c) xs){i:Nat}(hi:i<xs.length):∃cs,zar w (adr a (i*k)) k=some cs∧C cs xs[i]:=by
 obtain⟨a',c',hv',hc,hg⟩:=h.open
 have e1:a=a':=by injection hv'
 subst e1
 exact hg i hi
theorem all_set{L:List (List Value)}{X:List Value}{m:α}{j:Nat}(hl:L.length=xs.length)(h:∀q (h:q<L.length) (h':q<xs.length),C L[q] xs[q])(hX:C X m):
  ∀q (h:q<(L.set j X).length) (h':q<(xs.set j m).length),C (L.set j X)[q] (xs.set j m)[q]:=by
 intro q h1 h2
 by_cases hq:j=q
 ·subst hq;rw[List.getElem_set_self,List.getElem_set_self];exact hX
 ·rw[List.getElem_set_ne hq,List.getElem_set_ne hq];exact h q (by simpa using h1) (by simpa using h2)
theorem Owns.cases(h:Owns k C B w e v xs):
  (v= .slice Option.none 0 0∧xs=[])∨∃b cap L,v= .slice (some ⟨b,0,Option.none⟩) xs.length cap∧B≤b∧xs.length≤cap∧cap≤maxLen∧SD k w b e cap L∧L.length=xs.length∧∀i (h:i<L.length) (h':i<xs.length),C L[i] xs[i]:=by
 obtain⟨L,h1,h2,h3⟩:=h
 rcases h1.cases with ⟨hv,h0⟩| ⟨b,cap,hv,hb,hc,hm,hD⟩
 ·refine .inl ⟨hv,?_⟩
  rw[h0]at h2
  exact List.length_eq_zero_iff.1 h2.symm
 ·exact .inr ⟨b,cap,L,by rw[hv,h2],hb,by omega,hm,hD,h2,h3⟩
theorem Owns.of_sd{b cap:Nat}{L:List (List Value)}(h:SD k w b e cap L)(hB:B≤b)(hc:xs.length≤cap)(hm:cap≤maxLen)(hl:L.length=xs.length)(h3:∀i (h:i<L.length) (h':i<xs.length),C L[i] xs[i]):
  Owns k C B w e (.slice (some ⟨b,0,Option.none⟩) xs.length cap) xs:=by
 have:=OwnK.of_sd h hB (by omega) hm
 rw[hl]at this
 exact⟨L,this,hl,h3⟩
end
section
variable {P : Program} {d : Option Tmp} {ty : TypeId} {ps : String} {af : Array Edge} {g : Option (Nat × Bool)} {ρ : Operand → Value} {w : World} {K : Value → World → Prop} {α : Type} {k : Nat} {C : List Value → α → Prop}
theorem Ext.at{w x:World}(h:Ext w x){b:Nat}{O:Obj}(hb:w.heap[b]? =some O):x.heap[b]? =some O:=(h.block _ (Array.getElem?_eq_some_iff.1 hb).1 (fun h=>h)).trans hb
theorem zan{f:Option Nat}{n:Nat}{c:Code}{Q:Post}{σ:Sto}{ds:List Deferred}{O:Obj}(h:∀w1,Ext w w1→w1.heap.size=w.heap.size+1→w1.heap[w.heap.size]? =some O→W P f n c Q σ ds w1):W P f n c Q σ ds (w.alloc O):=
 h _ (Ext.alloc w O) (zax w O) (zat w O)
theorem zb7{f:Option Nat}{n:Nat}{c:Code}{Q:Post}{σ:Sto}{ds:List Deferred}{A B:Obj}(h:∀w1,Ext w w1→w1.heap.size=w.heap.size+2→w1.heap[w.heap.size]? =some A→w1.heap[w.heap.size+1]? =some B→W P f n c Q σ ds w1):W P f n c Q σ ds ((w.alloc A).alloc B):=by
 obtain⟨h1,h2,h3,h4⟩:=zcl w A B
 exact h _ h1 h2 h3 h4
theorem zbU(hC:zgf k C){B:Nat}{s x:Operand}{t e:TypeId}{inf:TypeInfo}{z:Value}{bytes:Nat}{v u:Value}{xs ys:List α}(hown:Owns k C B w e v xs)(hrow:Rows k C w u ys)
  (ht:tyU P t=some (.slice e)) (hi:P.info? e=some inf) (hz:inf.zero=some z)
  (hsize:inf.size=k) (hby:inf.bytes=bytes) (hzs:z.cells.size=k) (hk0:0<k) (hv:ρ s=v) (hu:ρ x=u)
  (hlen:xs.length+ys.length≤100000000000) (hbytes:bytes≤1000) (hB:B≤w.heap.size)
  (h:∀v' w',Owns k C B w' e v' (xs++ys)→(∀w0,Ext w0 w→w0.heap.size≤B→Ext w0 w')→Keep (fun b=>some b=v.ownBlock) w w'→(∀b,some b=v'.ownBlock→some b=v.ownBlock∨w.heap.size≤b)→K v' w'):
  opW P ⟨d,.call ⟨.builtin .append,#[s,x],#[t,t]⟩,ty,ps,af,g⟩ ρ w K:=by
 obtain⟨L,h1,h2,h3⟩:=hown
 obtain⟨M,m1,m2,m3⟩:=hrow
 have hMl:∀x∈M,x.length=k:=fun x hx=>by
  obtain⟨i,hi,rfl⟩:=List.getElem_of_mem hx
  exact hC.len (m3 i hi (by omega))
 have hM1:∀x∈M,∀q∈x,one q=true:=fun x hx=>by
  obtain⟨i,hi,rfl⟩:=List.getElem_of_mem hx
  exact hC.ones (m3 i hi (by omega))
 refine zg9 h1 m1 ht hi hz hsize hby hzs hk0 hv hu hMl hM1 (by omega) hbytes hB ?_
 intro v' w' ho hE hk hb _
 exact h v' w' ⟨L++M,ho,by simp[h2,m2],all_app h2 m2 h3 m3⟩ hE hk hb
theorem zc2(hC:zgf k C){t e:TypeId}{z:Value}{l:List Value}{a:α}(hu:tyU P t=some (.slice e))(hz:tyZ P e=some z)(hs:tyS P e=k)(hz1:z.cells.size=k)(hl:C l a)(hk:k≤1000)
  (h:∀w1,Ext w w1→w1.heap.size=w.heap.size+1→Owns k C w.heap.size w1 e (.slice (some ⟨w.heap.size,0,Option.none⟩) 1 1) [a]→K (.slice (some ⟨w.heap.size,0,Option.none⟩) 1 1) w1):bsL P t 1 [(0,.agg l.toArray)] w K .mk:=by
 refine zm6 hu hz hs hz1 (hC.len hl) hk (hC.ones hl) ?_
 intro w1 hE hsz ho
 refine h w1 hE hsz ⟨[l],ho,rfl,fun i h h'=>?_⟩
 have:i=0:=by simp at h;omega
 subst this
 exact hl
end
theorem flat_set{k:Nat}{D:List (List Value)}(h:∀x∈D,x.length=k){j i:Nat}(hj:j<D.length)(hi:i<k)(v:Value):(D.set j (D[j].set i v)).flatten=D.flatten.set (j*k+i) v:=by
 obtain⟨e1,e2⟩:=zho h hj
 have hk:=h D[j] (List.getElem_mem hj)
 have e3:(D.set j (D[j].set i v)).flatten=(D.take j).flatten++D[j].set i v++(D.drop (j+1)).flatten:=by
  rw[List.set_eq_take_append_cons_drop,if_pos hj];simp
 rw[e3,e1,List.append_assoc,List.append_assoc,List.set_append_right _ _ (by omega),e2,show j*k+i - j*k=i from by omega,List.set_append_left _ _ (by omega)]
theorem SD.setAt{k:Nat}{w:World}{b:Nat}{e:TypeId}{cap:Nat}{D:List (List Value)}(h:SD k w b e cap D){P:Program}{t:TypeId}{K:Value→World→Prop}{j i:Nat}(hj:j<D.length)(hi:i<k){v:Value}(hv:one v=true)
  (hs:tyS P t=1) (hin:(P.info? t).isSome=true) (hK:∀w',w'.heap.size=w.heap.size→SD k w' b e cap (D.set j (D[j].set i v))→Keep (fun i=>i=b) w w'→K undef w'):
  stK P t (.pointer (some ⟨b,j*k+i,Option.none⟩)) v w K:=by
 obtain⟨cur,R,hb,hc,hsz⟩:=h.lies
 have hfl:=zbG h.len
 have hlt:j*k+i<D.flatten.length:=by
  rw[hfl]
  have:(j+1)*k≤D.length*k:=Nat.mul_le_mul_right k hj
  rw[Nat.succ_mul]at this;omega
 have hcl:cur.size=D.flatten.length+R.length:=by
  have:=congrArg List.length hc
  simpa using this
 refine zaq hs hin hv hb (by omega) (by simp) ?_
 intro w' hs' hb' hk'
 refine hK w' hs' ⟨⟨_,R,hb',?_,by simpa using hsz⟩,?_,?_⟩ hk'
 ·rw[Array.toList_setIfInBounds,hc,flat_set h.len hj hi,List.set_append_left _ _ hlt]
 ·intro y hy
  rcases List.mem_or_eq_of_mem_set hy with hy|rfl
  ·exact h.len y hy
  ·rw[List.length_set];exact h.len _ (List.getElem_mem hj)
 ·intro y hy
  rcases List.mem_or_eq_of_mem_set hy with hy|rfl
  ·exact h.ones y hy
  ·intro q hq
   rcases List.mem_or_eq_of_mem_set hq with hq|rfl
   ·exact h.ones _ (List.getElem_mem hj) q hq
   ·exact hv
theorem zf7{w:World}{a:Addr}{v:Value}(h:w.cell? a=some v):a.block<w.heap.size:=by
 apply Classical.byContradiction
 intro hn
 unfold World.cell? at h
 rw[Array.getElem?_eq_none (by omega)]at h
 cases h
theorem zkc{w:World}{p:Option Addr}{k:Nat}{l:List Value}(h:zar w p k=some l)(hk:0<k){a:Addr}(ha:p=some a):a.block<w.heap.size:=by
 subst ha
 have hl:=zk3 h
 have h1:zaQ w a 0 k=some l:=h
 have:=zf7 (zeW h1 0 (by omega))
 have e:(a.add (0+0)).block=a.block:=by unfold Addr.add;split<;>rfl
 rwa [e]at this
theorem Rows.cut{α:Type}{k:Nat}{C:List Value→α→Prop}{w:World}{xs:List α}{a:Option Addr}{c n:Nat}(h:Rows k C w (.slice a n c) xs){lo hi:Nat}(h1:lo≤hi)(h2:hi≤n):
  Rows k C w (.slice (if c=lo then a else adr a (lo*k)) (hi - lo) (c - lo)) ((xs.drop lo).take (hi - lo)):=by
 have hl:=h.len
 exact(h.drop (m:=lo) (by omega)).take (by omega) (by omega)
section
variable {P : Program} {w : World} {K : Value → World → Prop} {α : Type} {k : Nat} {C : List Value → α → Prop}
theorem zm7{t e:TypeId}{z:Value}(hu:tyU P t=some (.slice e))(hz:tyZ P e=some z)(hs:tyS P e=k)(hz1:z.cells.size=k)
  (h:∀w1,Ext w w1→w1.heap.size=w.heap.size+1→Owns k C w.heap.size w1 e (.slice (some ⟨w.heap.size,0,Option.none⟩) 0 0) ([]:List α)→K (.slice (some ⟨w.heap.size,0,Option.none⟩) 0 0) w1):bsL P t 0 [] w K .mk:=
 zjj hu hz hs hz1 fun w1 h1 h2 h3=>h w1 h1 h2 ⟨[],h3,rfl,fun i h=>absurd h (by simp)⟩
theorem zf1{b n:Nat}{cur:Array Value}{e:TypeId}{fr:Nat×Nat}(h:w.heap[b]? =some (.cells cur e fr))(hn:n=cur.size):zar w (some ⟨b,0,Option.none⟩) n=some cur.toList:=by
 rw[zay h (by omega),List.drop_zero,List.take_of_length_le (by simp[hn])]
end
section
variable {α : Type} {k B : Nat} {C : List Value → α → Prop} {w x : World} {v : Value} {xs : List α} {e : TypeId}
theorem zcj(a:Addr)(i:Nat):(a.add i).block=a.block:=by unfold Addr.add;split<;>rfl
theorem zcI{a:Addr}(h:x.heap[a.block]? =w.heap[a.block]?):x.cell? a=w.cell? a:=by unfold World.cell?;rw[h]
theorem zf3{a:Addr}(h:x.heap[a.block]? =w.heap[a.block]?):∀(k i:Nat),zaQ x a i k=zaQ w a i k
 |0,_=>rfl
 |k+1,i=>by
  have e1:x.cell? (a.add i)=w.cell? (a.add i):=zcI (by rw[zcj];exact h)
  have e2:=zf3 h k (i+1)
  unfold zaQ
  rw[e1,e2]
theorem zf5{p:Option Addr}(h:∀a,p=some a→x.heap[a.block]? =w.heap[a.block]?)(k:Nat):zar x p k=zar w p k:=by
 cases p with
 |none=>rfl
 |some a=>exact zf3 (h a rfl) k 0
theorem Rows.blocks(h:Rows k C w v xs)(hb:∀a n c,v= .slice (some a) n c→x.heap[a.block]? =w.heap[a.block]?):Rows k C x v xs:=by
 obtain⟨L,⟨a,c,rfl,hc,hl⟩,h2,h3⟩:=h
 refine⟨L,⟨a,c,rfl,hc,fun j hj=>?_⟩,h2,h3⟩
 rw[←hl j hj]
 refine zf5 (fun p hp=>?_) k
 cases a with
 |none=>cases hp
 |some a=>
  have:p.block=a.block:=by
   simp only[adr,Option.map_some,Option.some.injEq]at hp
   rw[←hp,zcj]
  rw[this];exact hb a _ _ rfl
def BlkB(B:Nat)(w:World)(v:Value):Prop:=∀a n c,v= .slice (some a) n c→B≤a.block∧a.block<w.heap.size
theorem BlkB.ext(h:BlkB B w v)(hs:w.heap.size≤x.heap.size):BlkB B x v:=fun a n c hv=>⟨(h a n c hv).1,Nat.lt_of_lt_of_le (h a n c hv).2 hs⟩
theorem BlkB.mono{B':Nat}(h:BlkB B w v)(hB:B'≤B):BlkB B' w v:=fun a n c hv=>⟨Nat.le_trans hB (h a n c hv).1,(h a n c hv).2⟩
theorem BlkB.nil{n c:Nat}:BlkB B w (.slice Option.none n c):=fun a n c hv=>by cases hv
theorem BlkB.same{a:Option Addr}{n c n' c':Nat}(h:BlkB B w (.slice a n c)):BlkB B w (.slice a n' c'):=fun b n2 c2 hv=>by
 injection hv with e1 e2 e3
 subst e1
 exact h b n c rfl
theorem Owns.blk(h:Owns k C B w e v xs):BlkB B w v:=by
 intro a n c hv
 rcases h.cases with ⟨h1,_⟩| ⟨b,cap,L,h1,hb,_,_,hD,_⟩
 ·rw[h1]at hv;cases hv
 ·rw[h1]at hv
  injection hv with e1 e2 e3
  injection e1 with e1
  subst e1
  exact⟨hb,hD.lt⟩
theorem Rows.keep(h:Rows k C w v xs){S:Nat→Prop}(hk:Keep S w x)(hB:BlkB B w v)(hS:∀b,B≤b→b<w.heap.size→¬S b):Rows k C x v xs:=
 h.blocks fun a n c hv=>hk.block _ (hB a n c hv).2 (hS _ (hB a n c hv).1 (hB a n c hv).2)
theorem zf4{w:World}{a:Addr}:∀(i m k:Nat) {l:List Value},zaQ w a i (m+k)=some l→zaQ w a (i+m) k=some (l.drop m)
 |i,0,k,l,h=>by rw[Nat.zero_add]at h;simpa using h
 |i,m+1,k,l,h=>by
  rw[show m+1+k=(m+k)+1 from by omega]at h
  unfold zaQ at h
  split at h
  ·rename_i v l' h1 h2
   cases h
   have:=zf4 (i+1) m k h2
   rw[show i+1+m=i+(m+1) from by omega]at this
   simpa using this
  ·cases h
theorem ziE{w:World}{a:Addr}{m:Nat}:∀(k i:Nat),zaQ w (a.add m) i k=zaQ w a (m+i) k
 |0,_=>rfl
 |k+1,i=>by
  have e:=ziE (w:=w) (a:=a) (m:=m) k (i+1)
  unfold zaQ
  rw[zdz,e];rfl
theorem zbI{w:World}{p:Option Addr}{m k:Nat}{l:List Value}(h:zar w p (m+k)=some l):zar w (adr p m) k=some (l.drop m):=by
 cases p with
 |none=>cases h
 |some a=>
  show zaQ w (a.add m) 0 k=_
  rw[ziE,Nat.add_zero]
  have:=zf4 0 m k (show zaQ w a 0 (m+k)=some l from h)
  rwa [Nat.zero_add]at this
theorem zbu{b o n:Nat}(h:b<n):offS (zcK n) (some ⟨b,o,Option.none⟩):=fun a ha hb=>by
 cases ha
 unfold zcK at hb
 exact absurd (show n≤b from hb) (by omega)
theorem zaT{w x:World}(h:x=w.drew):Ext w x:=h▸Keep.drew NoS w
/-! ### a variable of several cells -/
variable {P : Program} {K : Value → World → Prop}
theorem zaR{t:TypeId}{b:Nat}{cur:Array Value}{l:List Value}(hb:w.heap[b]? =some (.cells cur e (0,0)))(hl:l.length=cur.size)(h1:∀v∈l,one v=true)(hs:tyS P t=l.length)(hi:(P.info? t).isSome=true)
  (hK:∀w',w'.heap.size=w.heap.size→w'.heap[b]? =some (.cells l.toArray e (0,0))→Keep (fun i=>i=b) w w'→K undef w'):stK P t (.pointer (some ⟨b,0,Option.none⟩)) (.agg l.toArray) w K:=by
 obtain⟨w',k1,k2,k3,cur',k4,k5⟩:=zef (o:=0) l 0 w [] cur.toList [] cur hb (by simp) rfl (by simp[hl]) h1
 refine⟨by simp[Value.cells,hs],hi,w',by simpa [Value.cells] using k1,hK w' k2 ?_ k3⟩
 rw[k4]
 have:cur'=l.toArray:=by
  apply Array.ext'
  simpa using k5
 rw[this]
theorem zdc{t:TypeId}{b j:Nat}{u:Value}{l:List Value}(hb:w.heap[b]? =some (.cells l.toArray e (0,0)))(hj:j<l.length)(h1:one u=true)(hs:tyS P t=1)(hi:(P.info? t).isSome=true)
  (hK:∀w',w'.heap.size=w.heap.size→w'.heap[b]? =some (.cells (l.set j u).toArray e (0,0))→Keep (fun i=>i=b) w w'→K undef w'):stK P t (.pointer (some ⟨b,j,Option.none⟩)) u w K:=by
 refine zaq hs hi h1 hb (by simpa using hj) (by simp) ?_
 intro w' h1 h2 h3
 refine hK w' h1 ?_ h3
 rw[h2];simp
theorem za2{b j:Nat}{u:Value}{l:List Value}(hb:w.heap[b]? =some (.cells l.toArray e (0,0)))(hj:l[j]? =some u):zad w (some ⟨b,j,Option.none⟩)=some u:=by
 show w.cell? _=_
 rw[zb3 hb];simpa using hj
theorem zal{b n:Nat}{l:List Value}(hb:w.heap[b]? =some (.cells l.toArray e (0,0)))(hn:n=l.length):zar w (some ⟨b,0,Option.none⟩) n=some l:=by
 have:=zf1 (n:=n) hb (by simp[hn])
 simpa using this
end
end Go.Proofs.YtkpdfhbpdkifoaaGreatDoor
namespace Go.Proofs.YtkpdfhbpdkifoaaGreatDoor.P_rr
open Go Go.Proofs.YtkpdfhbpdkifoaaGreatDoor
set_option maxRecDepth 10000
theorem Clip_ok{w:World}{a:Option Addr}{n c:Nat}(hc:n≤c):Fn Tryz.prog 33 #[.slice a n c] w (fun u w'=>u= .slice a n n∧w'=w):=by
 refine enter Tryz.func33 Tryz.ntmps33 rfl rfl ?_
 repeat refine c_r ?_
 refine rg0 ?_
 repeat refine c_r ?_
 refine rq ?_;intro gd K hgd hK
 try simp only[go_sem]
 have hcl:slD Tryz.prog (some (TypeDesc.slice 49)) (Value.slice a n c) Option.none (some (Value.int IntKind.i64 ↑n)) (some (Value.int IntKind.i64 ↑n))=some (.slice a n n):=zlM hc (by rfl)
 rw[hcl]
 try simp only[go_sem]
 refine hK _ _ ?_;clear hK hgd;clear K;try clear gd
 repeat refine c_r ?_
 refine rt0 Tryz.ntmps33 ?_
 exact⟨rfl,rfl⟩
end Go.Proofs.YtkpdfhbpdkifoaaGreatDoor.P_rr
namespace Go.Proofs.YtkpdfhbpdkifoaaGreatDoor.S_rec
open Go Go.Proofs.YtkpdfhbpdkifoaaGreatDoor
set_option maxRecDepth 10000
section
variable {α : Type} {enc : α → List Value}
abbrev Lies(enc:α→List Value)(w:World)(b cap:Nat)(D:List α):Prop:=SD 7 w b 49 cap (D.map enc)
def zdp(b n cap:Nat):Value:= .slice (some ⟨b,0,Option.none⟩) n cap
theorem Lies.get{w:World}{b cap:Nat}{D:List α}(h:Lies enc w b cap D){j:Nat}{x:α}(hx:D[j]? =some x):zar w (some ⟨b,j*7,Option.none⟩) 7=some (enc x):=by
 obtain⟨hj,e⟩:=List.getElem?_eq_some_iff.1 hx
 have:=SD.get h (j:=j) (by simpa using hj)
 rw[this,List.getElem_map,e]
theorem Lies.enc_len{w:World}{b cap:Nat}{D:List α}(h:Lies enc w b cap D){x:α}(hx:x∈D):(enc x).length=7:=h.len _ (List.mem_map_of_mem hx)
theorem Lies.enc_one{w:World}{b cap:Nat}{D:List α}(h:Lies enc w b cap D){x:α}(hx:x∈D):∀v∈enc x,one v=true:=h.ones _ (List.mem_map_of_mem hx)
theorem zhL{w:World}{b cap:Nat}{A X M Y B:List α}{n:Nat}(hX:X.length=n)(hY:Y.length=n)(hD:Lies enc w b cap (A++X++M++Y++B))(hlen:(A++X++M++Y++B).length≤1000000000000){cmp:Value}:
  Fn Tryz.prog 195 #[zdp b (A++X++M++Y++B).length cap,vi A.length,vi (A.length+X.length+M.length:Nat),vi n,cmp] w (fun _ w'=>Lies enc w' b cap (A++Y++M++X++B)∧Keep (fun i=>i=b) w w'):=by
 obtain⟨N,hN⟩:∃N,(A++X++M++Y++B).length=N:=⟨_,rfl⟩
 have hN':=hN
 simp only[List.length_append]at hN'
 rw[hN]at hlen ⊢
 obtain⟨q,hq⟩:∃q,A.length+X.length+M.length=q:=⟨_,rfl⟩
 rw[hq]
 unfold zdp
 refine enter Tryz.func195 Tryz.ntmps195 rfl rfl ?_
 repeat (first|refine c_r ?_|refine rg0 ?_)
 refine zaD (fun m σ ds v=>ds=[]∧∃i:Nat,i+m=n∧σ 10=vi i∧σ 0= .slice (some ⟨b,0,Option.none⟩) N cap∧σ 1=vi A.length∧σ 2=vi q∧σ 3=vi n∧Lies enc v b cap (zb4 A X M Y B i)∧Keep (fun i=>i=b) w v) n ?_ ?_
 ·refine⟨rfl,0,by omega,?_,?_,?_,?_,?_,by rw[zhM];exact hD,Keep.refl _ _⟩
  ·simp only[go_sem];rfl
  ·simp only[go_sem]
  ·simp only[go_sem]
  ·simp only[go_sem]
  ·simp only[go_sem]
 ·rintro m σ ds v ⟨rfl,i,him,h10,h0,h1,h2,h3,hL,hK⟩
  repeat refine c_r ?_
  refine rg2 h10 h3 ?_
  repeat refine c_r ?_
  refine wc0 ?_ ?_
  ·intro hlt
   simp only[decide_eq_true_eq]at hlt
   have hiX:i<X.length:=by omega
   have hiY:i<Y.length:=by omega
   obtain⟨hst,hg1,hg2⟩:=ziX (A:=A) (M:=M) (B:=B) hiX hiY
   have hLl:(zb4 A X M Y B i).length=N:=by rw[zkv (by omega) (by omega),hN]
   rw[hq]at hg2
   have c1:=hL.get hg1
   have c2:=hL.get hg2
   have m1:=List.mem_of_getElem? hg1
   have m2:=List.mem_of_getElem? hg2
   have x1:((A.length:Int)+i).toNat=A.length+i:=by omega
   have x2:((q:Int)+i).toNat=q+i:=by omega
   repeat refine c_r ?_
   refine zaF (fun i=>i==21||i==23) [(0,true),(1,true),(2,true),(3,true),(4,true),(5,true),(6,true),(7,true),(8,true),(9,true),(10,true),(11,true),(12,true),(13,true),(14,true),(15,true),(16,true),(17,true),(18,true),(19,true),(20,true),(21,false),(22,true),(23,false)] NoS mixed (by kernel_rfl) ?_;intro gd K x hgd hx hxe hK;clear hxe
   have hLx:Lies enc x b cap (zb4 A X M Y B i):=SD.ext hL hx
   have d1:=hLx.get hg1
   have d2:=hLx.get hg2
   simp (disch:=first|omega|assumption|rfl) only[go_sem,h10,h0,h1,h2,x1,x2,d1,d2]
   refine SD.set (P:=Tryz.prog) (t:=49) hLx (j:=A.length+i) (by simpa using by omega) (hL.enc_len m2) (hL.enc_one m2) rfl rfl ?_
   intro w1 hs1 hL1 hk1
   refine⟨.inl rfl,?_⟩
   simp (disch:=first|omega|assumption|rfl) only[go_sem,x2]
   refine SD.set (P:=Tryz.prog) (t:=49) hL1 (j:=q+i) (by simpa using by omega) (hL.enc_len m1) (hL.enc_one m1) rfl rfl ?_
   intro w2 hs2 hL2 hk2
   refine⟨.inl rfl,?_⟩
   simp (disch:=first|omega|assumption|rfl) only[go_sem]
   refine hK _ _ ?_;clear hK hgd;clear K;try clear gd
   repeat refine c_r ?_
   refine rg1 h10 ?_
   repeat refine c_r ?_
   refine⟨m - 1,by omega,rfl,i+1,by omega,by simp only[go_sem];push_cast;rfl,(vq1 h0),(vq1 h1),(vq1 h2),(vq1 h3),?_,((hK.trans (Ext.keep hx)).trans hk1).trans hk2⟩
   rw[←hst,hq]
   unfold Lies
   rw[List.map_set,List.map_set]
   exact hL2
  ·intro hge
   simp only[decide_eq_false_iff_not]at hge
   repeat refine c_r ?_
   refine zaw (by simp) rfl ?_
   have:i=n:=by omega
   subst this
   rw[zkw hX hY]at hL
   exact⟨hL,hK⟩
theorem zdg{w:World}{b cap:Nat}{D A X M Y B:List α}{p q n N:Nat}(hDe:D=A++X++M++Y++B)(hN:D.length=N)(hp:A.length=p)(hq:A.length+X.length+M.length=q)(hX:X.length=n)(hY:Y.length=n)(hD:Lies enc w b cap D)(hlen:N≤1000000000000){cmp:Value}:
  Fn Tryz.prog 195 #[zdp b N cap,vi p,vi q,vi n,cmp] w (fun _ w'=>Lies enc w' b cap (A++Y++M++X++B)∧Keep (fun i=>i=b) w w'):=by
 subst hDe hN hp hq
 exact zhL hX hY hD hlen
theorem zlP{w:World}{b cap:Nat}{D A X Y B:List α}{p q r N:Nat}(hDe:D=A++X++Y++B)(hN:D.length=N)(hp:A.length=p)(hq:A.length+X.length=q)(hr:A.length+X.length+Y.length=r)(hX:X≠ [])(hY:Y≠ [])(hD:Lies enc w b cap D)(hlen:N≤1000000000000){cmp:Value}:
  Fn Tryz.prog 168 #[zdp b N cap,vi p,vi q,vi r,cmp] w (fun _ w'=>Lies enc w' b cap (A++Y++X++B)∧Keep (fun i=>i=b) w w'):=by
 have hDl:=congrArg List.length hDe
 simp only[List.length_append]at hDl
 have hXp:0<X.length:=List.length_pos_iff.2 hX
 have hYp:0<Y.length:=List.length_pos_iff.2 hY
 unfold zdp
 refine enter Tryz.func168 Tryz.ntmps168 rfl rfl ?_
 repeat (first|refine c_r ?_|refine rg0 ?_)
 refine zaD (fun m σ ds v=>ds=[]∧∃(P X' Y' Q:List α),X'.length+Y'.length=m∧0<X'.length∧0<Y'.length∧P.length+X'.length=q∧P.length+X'.length+Y'.length+Q.length=N∧P++Y'++X'++Q=A++Y++X++B∧σ 10=vi X'.length∧σ 11=vi Y'.length∧σ 0= .slice (some ⟨b,0,Option.none⟩) N cap∧σ 2=vi q∧σ 4=cmp∧
  Lies enc v b cap (P++X'++Y'++Q)∧Keep (fun i=>i=b) w v) (X.length+Y.length) ?_ ?_
 ·refine⟨rfl,A,X,Y,B,rfl,hXp,hYp,hq,by omega,rfl,?_,?_,?_,?_,?_,by rw[←hDe];exact hD,Keep.refl _ _⟩
  ·have:(q:Int) - p=X.length:=by omega
   simp only[go_sem,this]
  ·have:(r:Int) - q=Y.length:=by omega
   simp only[go_sem,this]
  ·simp only[go_sem]
  ·simp only[go_sem]
  ·simp only[go_sem]
 ·rintro m σ ds v ⟨rfl,P,X',Y',Q,hm,hx0,hy0,hPq,hPN,hT,h10,h11,h0,h2,h4,hL,hK⟩
  have hDl':(P++X'++Y'++Q).length=N:=by simp only[List.length_append];omega
  have hqi:(q:Int) - X'.length=P.length:=by omega
  repeat refine c_r ?_
  refine rq ?_;intro gd K hgd hK;simp (disch:=first|omega|assumption|rfl) only[go_sem,h10,h11];refine hK _ _ ?_;clear hK hgd;clear K gd
  repeat refine c_r ?_
  refine wc0 ?_ ?_
  ·intro hne
   simp only[Bool.not_eq_true',decide_eq_false_iff_not]at hne
   repeat refine c_r ?_
   refine rq ?_;intro gd K hgd hK;simp (disch:=first|omega|assumption|rfl) only[go_sem,h10,h11];refine hK _ _ ?_;clear hK hgd;clear K gd
   repeat refine c_r ?_
   refine wc0 ?_ ?_
   ·intro hgt
    simp only[decide_eq_true_eq]at hgt
    have e1:P++X'++Y'++Q=P++X'.take Y'.length++X'.drop Y'.length++Y'++Q:=by
     rw[List.append_assoc P (X'.take Y'.length),List.take_append_drop]
    have l1:(X'.take Y'.length).length=Y'.length:=by simp;omega
    have l2:(X'.drop Y'.length).length=X'.length - Y'.length:=by simp
    repeat refine c_r ?_
    refine rq ?_;intro gd K hgd hK
    try simp (disch:=first|omega|assumption|rfl) only[go_sem,h0,h2,h10,h11,h4,hqi]
    refine Fn.mono (zdg (p:=P.length) (q:=q) e1 hDl' rfl (by rw[l1,l2];omega) l1 rfl hL hlen) ?_
    rintro _ w1 ⟨hL1,hK1⟩
    try simp only[go_sem]
    refine hK _ _ ?_;clear hK hgd;clear K;try clear gd
    repeat refine c_r ?_
    have hsub:(X'.length:Int) - Y'.length=(X'.drop Y'.length).length:=by rw[l2];omega
    refine rq ?_;intro gd K hgd hK;simp (disch:=first|omega|assumption|rfl) only[go_sem,h10,h11,hsub];refine hK _ _ ?_;clear hK hgd;clear K gd
    repeat refine c_r ?_
    refine⟨X'.length,by omega,rfl,P++Y',X'.drop Y'.length,X'.take Y'.length,Q,by rw[l1,l2];omega,by rw[l2];omega,by rw[l1];omega,by rw[l2,List.length_append];omega,by rw[l1,l2,List.length_append];omega,?_,(vq1 hsub),by simp only[go_sem,h11,l1],(vq1 h0),(vq1 h2),(vq1 h4),?_,hK.trans hK1⟩
    ·rw[←hT,List.append_assoc (P++Y'),List.take_append_drop]
    ·exact hL1
   ·intro hle
    simp only[decide_eq_false_iff_not]at hle
    have hlt:X'.length<Y'.length:=by omega
    obtain⟨d,hd⟩:∃d,Y'.length - X'.length=d:=⟨_,rfl⟩
    have e1:P++X'++Y'++Q=P++X'++Y'.take d++Y'.drop d++Q:=by
     rw[List.append_assoc (P++X') (Y'.take d),List.take_append_drop]
    have l1:(Y'.take d).length=d:=by simp;omega
    have l2:(Y'.drop d).length=X'.length:=by simp;omega
    have hqj:(q:Int)+Y'.length - X'.length=((q+d:Nat):Int):=by omega
    repeat refine c_r ?_
    refine rq ?_;intro gd K hgd hK
    try simp (disch:=first|omega|assumption|rfl) only[go_sem,h0,h2,h10,h11,h4,hqi,hqj]
    refine Fn.mono (zdg (p:=P.length) (q:=q+d) e1 hDl' rfl (by rw[l1];omega) rfl l2 hL hlen) ?_
    rintro _ w1 ⟨hL1,hK1⟩
    try simp only[go_sem]
    refine hK _ _ ?_;clear hK hgd;clear K;try clear gd
    repeat refine c_r ?_
    have hsub:(Y'.length:Int) - X'.length=(Y'.take d).length:=by rw[l1];omega
    refine rq ?_;intro gd K hgd hK;simp (disch:=first|omega|assumption|rfl) only[go_sem,h10,h11,hsub];refine hK _ _ ?_;clear hK hgd;clear K gd
    repeat refine c_r ?_
    refine⟨Y'.length,by omega,rfl,P,Y'.drop d,Y'.take d,X'++Q,by rw[l1,l2];omega,by rw[l2];omega,by rw[l1];omega,by rw[l2];omega,by rw[l1,l2,List.length_append];omega,?_,(vq2 h10 l2),(vq1 hsub),(vq1 h0),(vq1 h2),(vq1 h4),?_,hK.trans hK1⟩
    ·rw[←hT,List.append_assoc P (Y'.take d),List.take_append_drop];simp only[List.append_assoc]
    ·have:P++Y'.drop d++Y'.take d++X'++Q=P++Y'.drop d++Y'.take d++(X'++Q):=by simp only[List.append_assoc]
     rw[←this];exact hL1
  ·intro heq
   simp only[Bool.not_eq_false',decide_eq_true_eq]at heq
   have e1:P++X'++Y'++Q=P++X'++ []++Y'++Q:=by simp
   repeat refine c_r ?_
   refine rq ?_;intro gd K hgd hK
   try simp (disch:=first|omega|assumption|rfl) only[go_sem,h0,h2,h10,h4,hqi]
   refine Fn.mono (zdg (p:=P.length) (q:=q) (n:=X'.length) e1 hDl' rfl (by simpa using hPq) rfl (by omega) hL hlen) ?_
   rintro _ w1 ⟨hL1,hK1⟩
   try simp only[go_sem]
   refine hK _ _ ?_;clear hK hgd;clear K;try clear gd
   repeat refine c_r ?_
   refine zaw (by simp) rfl ⟨?_,hK.trans hK1⟩
   rw[←hT]
   simpa using hL1
end
end Go.Proofs.YtkpdfhbpdkifoaaGreatDoor.S_rec
