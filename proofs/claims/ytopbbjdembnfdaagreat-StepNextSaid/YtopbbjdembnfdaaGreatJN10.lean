/-
  Texts of a proof, joined: K27, W0, W1, W2, Y3, M6ed, M6eg, F0, F1, G6, G7, V0, K25, V1, K28, V2, V3, V4, M5ci, V5, M5st, V6.
  Conditions: none.
-/
import Derived.Test.YtopbbjdembnfdaaGreatJN01
import Derived.Test.YtopbbjdembnfdaaGreatJN09
import Derived.Test.YtopbbjdembnfdaaGreatJN05
import Derived.Test.YtopbbjdembnfdaaGreatJN07
import Derived.Test.YtopbbjdembnfdaaGreatJN04
import Derived.Test.YtopbbjdembnfdaaGreatJN03
import Derived.Test.YtopbbjdembnfdaaGreatJN02
set_option linter.unusedVariables false
set_option linter.unusedSimpArgs false
set_option linter.defProp false
set_option linter.unnecessarySimpa false
namespace Go.Proofs.YtopbbjdembnfdaaGreat
open Go
section
variable {A B C D E F G H I : Prop}
theorem an2(a:A)(b:B):A∧B:=⟨a,b⟩
theorem an3(a:A)(b:B)(c:C):A∧B∧C:=⟨a,b,c⟩
theorem an4(a:A)(b:B)(c:C)(d:D):A∧B∧C∧D:=⟨a,b,c,d⟩
theorem an5(a:A)(b:B)(c:C)(d:D)(e:E):A∧B∧C∧D∧E:=⟨a,b,c,d,e⟩
theorem an6(a:A)(b:B)(c:C)(d:D)(e:E)(f:F):A∧B∧C∧D∧E∧F:=⟨a,b,c,d,e,f⟩
theorem an7(a:A)(b:B)(c:C)(d:D)(e:E)(f:F)(g:G):A∧B∧C∧D∧E∧F∧G:=⟨a,b,c,d,e,f,g⟩
theorem an8(a:A)(b:B)(c:C)(d:D)(e:E)(f:F)(g:G)(h:H):A∧B∧C∧D∧E∧F∧G∧H:=⟨a,b,c,d,e,f,g,h⟩
theorem an9(a:A)(b:B)(c:C)(d:D)(e:E)(f:F)(g:G)(h:H)(i:I):A∧B∧C∧D∧E∧F∧G∧H∧I:=⟨a,b,c,d,e,f,g,h,i⟩
end
def gdOk:List (Nat×Nat)→(Nat→Option Tmp)→Prop
 | [],_=>True
 |p::l,gd=>gd p.1=some p.2∧gdOk l gd
theorem zib{L:List Oper}:∀{gs:List (Nat×Nat)},(gs.all fun p=>dstL L p.1==some p.2)=true→gdOk gs (dstL L)
 | [],_=>trivial
 |p::l,h=>by
  simp only[List.all_cons,Bool.and_eq_true,beq_iff_eq]at h
  exact⟨h.1,zib h.2⟩
theorem zaW(b:Bool):zal undef b=false:=nr rfl
def Rest(P:Program)(Q:Post)(ds:List Deferred)(L:List Oper)(F:(Nat→Option Tmp)→(Sto→World→Prop)→Prop):Prop:=
 ∀(gd:Nat→Option Tmp) (K:Sto→World→Prop),gd=dstL L→(∀σ' w',Q .normal σ' ds w'→K σ' w')→F gd K
section
variable {P : Program} {r : Option Nat} {n : Nat} {Q : Post} {σ : Sto} {ds : List Deferred} {w : World} {p : Prop} {L : List Oper} {F : (Nat → Option Tmp) → (Sto → World → Prop) → Prop}
theorem wt{c:Operand}{x y:Code}(h:p)(ht:W P r n x Q σ ds w)(hc:p→ev n σ c= .bool true:=by intro h1;first| (simp only[go_sem,h1];done)| (simp only[go_sem,h1];rfl)):W P r n (.cond c x y) Q σ ds w:=zaB (hc h) (fun _=>ht) (fun h=>by cases h)
theorem wf{c:Operand}{x y:Code}(h:p)(ht:W P r n y Q σ ds w)(hc:p→ev n σ c= .bool false:=by intro h1;first| (simp only[go_sem,h1];done)| (simp only[go_sem,h1];rfl)):W P r n (.cond c x y) Q σ ds w:=zaB (hc h) (fun h=>by cases h) (fun _=>ht)
theorem ro{id:Nat}{ops:Array Oper}(h:Rest P Q ds ops.toList (fun gd K=>opsV P gd n ops.toList σ w K))(hd:zbc ops=true:=by rfl):W P r n (.region id ops false) Q σ ds w:=zcj hd fun gd K hgd hK=>h gd K hgd hK
theorem rd{f:FuncId}{args:Array Value}{w1:World}{R:Value→World→Prop}{C:(Nat→Option Tmp)→(Sto→World→Prop)→Value→World→Prop}(h:p)(hF:Fn P f args w1 R)(hr:∀v w',R v w'→Rest P Q ds L (fun gd K=>C gd K v w'))
  (hs:p→∀(gd:Nat→Option Tmp) (K:Sto→World→Prop),F gd K=Fn P f args w1 (fun v w'=>C gd K v w'):=by intro h1 gd K;(simp (disch:=first|omega|assumption|rfl) only[go_sem,h1])<;>exact rfl):Rest P Q ds L F:=
 fun gd K hgd hK=>(hs h gd K).mpr (Fn.mono hF fun v w' hR=>hr v w' hR gd K hgd hK)
theorem rc{id:Nat}{ops:Array Oper}{f:FuncId}{args:Array Value}{w1:World}{R:Value→World→Prop}{C:(Nat→Option Tmp)→(Sto→World→Prop)→Value→World→Prop}(h:p)(hF:Fn P f args w1 R)(hr:∀v w',R v w'→Rest P Q ds ops.toList (fun gd K=>C gd K v w'))
  (hs:p→∀(gd:Nat→Option Tmp) (K:Sto→World→Prop),opsV P gd n ops.toList σ w K=Fn P f args w1 (fun v w'=>C gd K v w'):=by intro h1 gd K;(simp (disch:=first|omega|assumption|rfl) only[go_sem,h1])<;>exact rfl)
  (hd:zbc ops=true:=by rfl):W P r n (.region id ops false) Q σ ds w:=ro (rd h hF hr hs) hd
theorem re{σ1:Sto}{w1:World}(h:p)(hq:Q .normal σ1 ds w1)
  (hs:p→∀(gd:Nat→Option Tmp) (K:Sto→World→Prop),F gd K=K σ1 w1:=by intro h1 gd K;(first| (simp (disch:=first|omega|assumption|rfl) only[go_sem,h1])|skip)<;>exact rfl):Rest P Q ds L F:=
 fun gd K _ hK=>(hs h gd K).mpr (hK _ _ hq)
theorem rdg(gs:List (Nat×Nat)){f:FuncId}{args:Array Value}{w1:World}{R:Value→World→Prop}{C:(Nat→Option Tmp)→(Sto→World→Prop)→Value→World→Prop}(h:p)(hF:Fn P f args w1 R)(hr:∀v w',R v w'→Rest P Q ds L (fun gd K=>C gd K v w'))
  (hs:p→∀(gd:Nat→Option Tmp) (K:Sto→World→Prop),gdOk gs gd→F gd K=Fn P f args w1 (fun v w'=>C gd K v w'):=by intro h1 gd K hg;simp only[gdOk]at hg;(simp (disch:=first|omega|assumption|rfl) only[go_sem,zad,zb8,zaW,hg,h1])<;>exact rfl)
  (hg:(gs.all fun p=>dstL L p.1==some p.2)=true:=by exact rfl):Rest P Q ds L F:=
 fun gd K hgd hK=>(hs h gd K (hgd▸zib hg)).mpr (Fn.mono hF fun v w' hR=>hr v w' hR gd K hgd hK)
theorem rcg(gs:List (Nat×Nat)){id:Nat}{ops:Array Oper}{f:FuncId}{args:Array Value}{w1:World}{R:Value→World→Prop}{C:(Nat→Option Tmp)→(Sto→World→Prop)→Value→World→Prop}(h:p)(hF:Fn P f args w1 R)(hr:∀v w',R v w'→Rest P Q ds ops.toList (fun gd K=>C gd K v w'))
  (hs:p→∀(gd:Nat→Option Tmp) (K:Sto→World→Prop),gdOk gs gd→opsV P gd n ops.toList σ w K=Fn P f args w1 (fun v w'=>C gd K v w'):=by intro h1 gd K hg;simp only[gdOk]at hg;(simp (disch:=first|omega|assumption|rfl) only[go_sem,zad,zb8,zaW,hg,h1])<;>exact rfl)
  (hg:(gs.all fun p=>dstL ops.toList p.1==some p.2)=true:=by exact rfl) (hd:zbc ops=true:=by rfl):W P r n (.region id ops false) Q σ ds w:=ro (rdg gs h hF hr hs hg) hd
theorem reg(gs:List (Nat×Nat)){σ1:Sto}{w1:World}(h:p)(hq:Q .normal σ1 ds w1)
  (hs:p→∀(gd:Nat→Option Tmp) (K:Sto→World→Prop),gdOk gs gd→F gd K=K σ1 w1:=by intro h1 gd K hg;simp only[gdOk]at hg;(first| (simp (disch:=first|omega|assumption|rfl) only[go_sem,zad,zb8,zaW,hg,h1])|skip)<;>exact rfl)
  (hg:(gs.all fun p=>dstL L p.1==some p.2)=true:=by exact rfl):Rest P Q ds L F:=
 fun gd K hgd hK=>(hs h gd K (hgd▸zib hg)).mpr (hK _ _ hq)
theorem rgg(gs:List (Nat×Nat)){id:Nat}{ops:Array Oper}{σ1:Sto}{w1:World}(h:p)(hq:Q .normal σ1 ds w1)
  (hs:p→∀(gd:Nat→Option Tmp) (K:Sto→World→Prop),gdOk gs gd→opsV P gd n ops.toList σ w K=K σ1 w1:=by intro h1 gd K hg;simp only[gdOk]at hg;(simp (disch:=first|omega|assumption|rfl) only[go_sem,zad,zb8,zaW,hg,h1])<;>exact rfl)
  (hg:(gs.all fun p=>dstL ops.toList p.1==some p.2)=true:=by exact rfl) (hd:zbc ops=true:=by rfl):W P r n (.region id ops false) Q σ ds w:=ro (reg gs h hq hs hg) hd
end
set_option maxRecDepth 10000
theorem zdZ{α:Type}{xs ys:List α}{i:Nat}(h1:i<xs.length)(h2:i<ys.length)(ht:xs.take i=ys.take i)(he:xs[i]=ys[i]):xs.take (i+1)=ys.take (i+1):=by
 rw[zao h1,zao h2,ht,he]
theorem zlQ(w:World){a b:Value}{xs ys:List Lab}(ha:Row w a (xs.map vs))(hb:Row w b (ys.map vs))(hl:xs.length≤1000000000000000):
  Fn Tryz.prog 149 #[a,b] w (fun v w'=>Ext w w'∧∃t,v= .bool t∧(t=true→xs=ys)):=by
 obtain⟨a1,c1,rfl,_,h1⟩:=ha
 obtain⟨a2,c2,rfl,_,h2⟩:=hb
 simp only[List.length_map,List.getElem_map]at h1 h2 ⊢
 refine enter Tryz.func149 Tryz.ntmps149 rfl rfl ?_
 repeat refine c_r ?_
 refine rg0 ?_
 repeat refine c_r ?_
 by_cases hn:(xs.length:Int)=(ys.length:Int)
 rotate_left
 ·refine rg1 (decide_eq_false hn) ?_
  repeat refine c_r ?_
  refine wt Bool.not_false ?_
  repeat (first|refine c_r ?_|refine rg0 ?_)
  refine rt0 Tryz.ntmps149 ?_
  exact⟨Keep.refl _ _,_,rfl,fun h=>by cases h⟩
 refine rg1 (decide_eq_true hn) ?_
 repeat refine c_r ?_
 refine wf Bool.not_true ?_
 have hn':xs.length=ys.length:=by omega
 repeat refine c_r ?_
 refine rg0 ?_
 repeat refine c_r ?_
 refine zap (fun m σ ds A=>ds=[]∧∃(i:Nat),i+m=xs.length∧σ 5=vi i∧σ 0= .slice a1 xs.length c1∧σ 1= .slice a2 ys.length c2∧Ext w A∧xs.take i=ys.take i) xs.length ?_ ?_
 ·exact⟨rfl,0,by omega,vr0,vq0,vq0,Keep.refl _ _,rfl⟩
 rintro m σ ds A ⟨rfl,i,him,s5,s0,s1,hEA,ht⟩
 repeat refine c_r ?_
 refine rg2 s5 s0 ?_
 repeat refine c_r ?_
 refine wc0 ?_ ?_
 ·intro hlt
  simp only[decide_eq_true_eq]at hlt
  have hi:i<xs.length:=by omega
  have hi2:i<ys.length:=by omega
  have hi0:(0:Int)≤(i:Int):=by omega
  have hi1:(i:Int)<(ys.length:Int):=by omega
  have hi1':(i:Int)+1=((i+1:Nat):Int):=by push_cast;rfl
  have g1:=h1 i hi
  have g2:=h2 i hi2
  obtain⟨x1,rfl⟩:=Option.isSome_iff_exists.1 (zai g1)
  obtain⟨x2,rfl⟩:=Option.isSome_iff_exists.1 (zai g2)
  repeat refine c_r ?_
  refine zaN (fun _=>false) [(0,true),(1,true),(2,true),(3,true),(4,true),(5,true),(6,true),(7,true),(8,true)] NoS mixed (by kernel_rfl) ?_;intro gd K x hgd hx hxe hK;clear hxe
  have g1x:=zab (hEA.trans hx) g1
  have g2x:=zab (hEA.trans hx) g2
  simp (disch:=first|omega|assumption|rfl) only[go_sem,s5,s0,s1,hi0,hlt,hi1,g1x,g2x,Nat.mul_one]
  refine hK _ _ ?_;clear hK hgd;clear K;try clear gd
  by_cases he:xs[i]=ys[i]
  ·repeat refine c_r ?_
   refine wf (an2 (decide_eq_true he) Bool.not_true) ?_
   repeat refine c_r ?_
   refine rg2 s5 hi1' ?_
   repeat refine c_r ?_
   exact⟨m - 1,by omega,rfl,i+1,by omega,vq0,(vq1 s0),(vq1 s1),hEA.trans hx,zdZ hi hi2 ht he⟩
  ·repeat refine c_r ?_
   refine wt (an2 (decide_eq_false he) Bool.not_false) ?_
   repeat (first|refine c_r ?_|refine rg0 ?_)
   refine rt0 Tryz.ntmps149 ?_
   exact⟨hEA.trans hx,_,rfl,fun h=>by cases h⟩
 ·intro hge
  simp only[decide_eq_false_iff_not]at hge
  repeat (first|refine c_r ?_|refine rg0 ?_)
  refine rt0 Tryz.ntmps149 ?_
  refine⟨hEA,_,rfl,fun _=>?_⟩
  rwa [List.take_of_length_le (by omega),List.take_of_length_le (by omega)]at ht
structure DatN(d:DatL):Prop where
 nn:d.names.length≤1000000000000000
 ns:∀n∈d.names,n.length≤1000000000000000
 nu:d.nums.length≤1000000000000000
 nt:d.texts.length≤1000000000000000
theorem DatOk.n{d:DatL}(h:DatOk d):DatN d:=⟨h.nn,fun n hn=>(h.names n hn).2,h.nu,h.nt⟩
set_option maxHeartbeats 2000000 in
theorem Is4_ok(w:World){ca cb:List Value}{a b:DatL}(ha:DatAt w ca a)(hb:DatAt w cb b)(ka:DatN a):
  Fn Tryz.prog 150 #[.agg ca.toArray,.agg cb.toArray] w (fun v w'=>Ext w w'∧∃t,v= .bool t∧(t=true→a=b)):=by
 obtain⟨nm,nu,tx,rw1,rfl,hnm,hnu,htx,hrw⟩:=ha.ex
 obtain⟨mm,mu,ux,rw2,rfl,hmm,hmu,hux,hrx⟩:=hb.ex
 obtain⟨V1,⟨a1,c1,rfl,_,ga⟩,lV1,hV1⟩:=hnm
 obtain⟨V2,⟨a2,c2,rfl,_,gb⟩,lV2,hV2⟩:=hmm
 obtain⟨a3,c3,rfl,_,gc⟩:=hnu
 obtain⟨a4,c4,rfl,_,gd4⟩:=hmu
 obtain⟨a5,c5,htxe,_⟩:=id htx
 obtain⟨a6,c6,huxe,_⟩:=id hux
 obtain⟨a7,c7,rfl,_,gr⟩:=hrw
 obtain⟨a8,c8,rfl,_,gs⟩:=hrx
 simp only[List.length_map,List.getElem_map]at gc gd4 gr gs htxe huxe ⊢
 refine enter Tryz.func150 Tryz.ntmps150 rfl rfl ?_
 repeat refine c_r ?_
 rw[htxe,huxe]
 refine rg0 ?_
 repeat refine c_r ?_
 rw[zam]
 refine zaH ?_
 intro w1 hE1 hs1 hA hB
 have p0:zaf w1 (some ⟨w.heap.size,0,Option.none⟩)=some (vi a.ty):=zac hA rfl
 have p1:zaf w1 (some ⟨w.heap.size,1,Option.none⟩)=some (.slice a1 V1.length c1):=zac hA rfl
 have p2:zaf w1 (some ⟨w.heap.size,2,Option.none⟩)=some (.slice a3 a.nums.length c3):=zac hA rfl
 have p3:zaf w1 (some ⟨w.heap.size,3,Option.none⟩)=some (.slice a5 a.texts.length c5):=zac hA rfl
 have p4:zaf w1 (some ⟨w.heap.size,4,Option.none⟩)=some (.slice a7 a.raw.length c7):=zac hA rfl
 have q0:zaf w1 (some ⟨w.heap.size+1,0,Option.none⟩)=some (vi b.ty):=zac hB rfl
 have q1:zaf w1 (some ⟨w.heap.size+1,1,Option.none⟩)=some (.slice a2 V2.length c2):=zac hB rfl
 have q2:zaf w1 (some ⟨w.heap.size+1,2,Option.none⟩)=some (.slice a4 b.nums.length c4):=zac hB rfl
 have q3:zaf w1 (some ⟨w.heap.size+1,3,Option.none⟩)=some (.slice a6 b.texts.length c6):=zac hB rfl
 have q4:zaf w1 (some ⟨w.heap.size+1,4,Option.none⟩)=some (.slice a8 b.raw.length c8):=zac hB rfl
 repeat refine c_r ?_
 refine zaC (Q:=fun e σ' ds' v'=>e= .normal∧ds'=[]∧v'=w1∧σ' 2= .pointer (some ⟨w.heap.size,0,Option.none⟩)∧σ' 3= .pointer (some ⟨w.heap.size+1,0,Option.none⟩)∧∃t,σ' 47= .bool t∧(t=false→a.ty=b.ty∧V1.length=V2.length∧a.nums.length=b.nums.length∧a.texts.length=b.texts.length∧a.raw=b.raw)) ?_ ?_
 ·by_cases e0:a.ty=b.ty
  rotate_left
  ·refine rgg [(5,12),(14,21),(23,30),(32,39)] (an5 p0 q0 Nat.add_zero (decide_eq_false e0) Bool.not_false) ?_
   exact⟨rfl,rfl,rfl,vq0,vq0,_,vr0,fun h=>by cases h⟩
  by_cases e1:(V1.length:Int)=(V2.length:Int)
  rotate_left
  ·refine rgg [(5,12),(14,21),(23,30),(32,39)] (an9 p0 q0 Nat.add_zero (decide_eq_true e0) Bool.not_true p1 q1 Nat.zero_add (decide_eq_false e1)) ?_
   exact⟨rfl,rfl,rfl,vq0,vq0,_,vr0,fun h=>by cases h⟩
  by_cases e2:(a.nums.length:Int)=(b.nums.length:Int)
  rotate_left
  ·refine rgg [(5,12),(14,21),(23,30),(32,39)] (an4 (an9 p0 q0 Nat.add_zero (decide_eq_true e0) Bool.not_true p1 q1 Nat.zero_add (decide_eq_true e1)) p2 q2 (decide_eq_false e2)) ?_
   exact⟨rfl,rfl,rfl,vq0,vq0,_,vr0,fun h=>by cases h⟩
  by_cases e3:(a.texts.length:Int)=(b.texts.length:Int)
  rotate_left
  ·refine rgg [(5,12),(14,21),(23,30),(32,39)] (an7 (an9 p0 q0 Nat.add_zero (decide_eq_true e0) Bool.not_true p1 q1 Nat.zero_add (decide_eq_true e1)) p2 q2 (decide_eq_true e2) p3 q3 (decide_eq_false e3)) ?_
   exact⟨rfl,rfl,rfl,vq0,vq0,_,vr0,fun h=>by cases h⟩
  refine rq ?_;intro gd K hgd hK
  have hg5:∀n σ b,zas gd n σ (some (5,b))=zal (ev n σ (.tmp 12)) b:=(fun n σ b=>by rw[zad,show gd 5=some 12 from(by rw[hgd];rfl)];rfl);have hg14:∀n σ b,zas gd n σ (some (14,b))=zal (ev n σ (.tmp 21)) b:=(fun n σ b=>by rw[zad,show gd 14=some 21 from(by rw[hgd];rfl)];rfl);have hg23:∀n σ b,zas gd n σ (some (23,b))=zal (ev n σ (.tmp 30)) b:=(fun n σ b=>by rw[zad,show gd 23=some 30 from(by rw[hgd];rfl)];rfl);have hg32:∀n σ b,zas gd n σ (some (32,b))=zal (ev n σ (.tmp 39)) b:=(fun n σ b=>by rw[zad,show gd 32=some 39 from(by rw[hgd];rfl)];rfl)
  try simp (disch:=first|omega|assumption|rfl) only[go_sem,p0,q0,Nat.add_zero,decide_eq_true e0,Bool.not_true,p1,q1,Nat.zero_add,decide_eq_true e1,p2,q2,decide_eq_true e2,p3,q3,decide_eq_true e3,p4,↓hg5,↓hg14,↓hg23,↓hg32]
  refine zbf (l:=a.raw) rfl rfl rfl (vq0) (fun j hj=>zab hE1 (gr j hj)) ?_
  try simp (disch:=first|omega|assumption|rfl) only[go_sem,q4,Nat.zero_add,↓hg5,↓hg14,↓hg23,↓hg32]
  refine zbf (l:=b.raw) rfl rfl rfl (vq0) (fun j hj=>zab hE1 (gs j hj)) ?_
  try simp (disch:=first|omega|assumption|rfl) only[go_sem,↓hg5,↓hg14,↓hg23,↓hg32]
  refine hK _ _ ?_;clear hK hgd;clear K;try clear gd
  exact⟨rfl,rfl,rfl,vq0,vq0,_,vr0,fun h=>⟨e0,by omega,by omega,by omega,by simpa using h⟩⟩
 rintro _ σ1 _ w2 ⟨rfl,rfl,rfl,s2,s3,t,s47,ht⟩
 repeat refine c_r ?_
 cases t with
 |true=>
  refine wt s47 ?_
  repeat (first|refine c_r ?_|refine rg0 ?_)
  refine rt0 Tryz.ntmps150 ?_
  exact⟨hE1,_,rfl,fun h=>by cases h⟩
 |false=>
 refine wf s47 ?_
 obtain⟨e0,e1,e2,e3,e4⟩:=ht rfl
 clear s47 ht
 have kn:=ka.nn
 have ku:=ka.nu
 have kt:=ka.nt
 repeat refine c_r ?_
 refine rg0 ?_
 repeat refine c_r ?_
 refine zap (fun m σ ds A=>ds=[]∧∃(i:Nat),i+m=V1.length∧σ 5=vi i∧σ 2= .pointer (some ⟨w.heap.size,0,Option.none⟩)∧σ 3= .pointer (some ⟨w.heap.size+1,0,Option.none⟩)∧Ext w2 A∧a.names.take i=b.names.take i) V1.length ?_ ?_
 ·exact⟨rfl,0,by omega,vr0,(vq1 s2),(vq1 s3),Keep.refl _ _,rfl⟩
 clear s2 s3
 rintro m σ ds A ⟨rfl,i,him,s5,s2,s3,hEA,ht⟩
 have p1A:=zab hEA p1
 have q1A:=zab hEA q1
 repeat refine c_r ?_
 refine rg4 s5 s2 p1A Nat.zero_add ?_
 repeat refine c_r ?_
 refine wc0 ?_ ?_
 ·intro hlt
  simp only[decide_eq_true_eq]at hlt
  have hi:i<V1.length:=by omega
  have hi2:i<V2.length:=by omega
  have hi0:(0:Int)≤(i:Int):=by omega
  have hi1:(i:Int)<(V2.length:Int):=by omega
  have hi1':(i:Int)+1=((i+1:Nat):Int):=by push_cast;rfl
  have g1:=ga i hi
  have g2:=gb i hi2
  have r1:=hV1 i hi (by omega)
  have r2:=hV2 i hi2 (by omega)
  have kl:=ka.ns _ (List.getElem_mem (show i<a.names.length by omega))
  obtain⟨x1,rfl⟩:=Option.isSome_iff_exists.1 (zai g1)
  obtain⟨x2,rfl⟩:=Option.isSome_iff_exists.1 (zai g2)
  repeat refine c_r ?_
  refine zaN (fun _=>false) [(0,true),(1,true),(2,true),(3,true),(4,true),(5,true),(6,true),(7,true),(8,true),(9,true),(10,false),(11,true)] NoS mixed (by kernel_rfl) ?_;intro gd K x hgd hx hxe hK;clear hxe
  have g1x:=zab (hE1.trans (hEA.trans hx)) g1
  have g2x:=zab (hE1.trans (hEA.trans hx)) g2
  have p1x:=zab hx p1A
  have q1x:=zab hx q1A
  simp (disch:=first|omega|assumption|rfl) only[go_sem,s5,s2,s3,hi0,hlt,hi1,g1x,g2x,p1x,q1x,Nat.mul_one,Nat.zero_add]
  refine Fn.mono (zlQ x (r1.ext (hE1.trans (hEA.trans hx))) (r2.ext (hE1.trans (hEA.trans hx))) kl) ?_
  rintro _ y ⟨hy,t,rfl,ht2⟩
  refine⟨.inr hy,?_⟩
  simp (disch:=first|omega|assumption|rfl) only[go_sem]
  refine hK _ _ ?_;clear hK hgd;clear K;try clear gd
  cases t with
  |true=>
   repeat refine c_r ?_
   refine wf Bool.not_true ?_
   repeat refine c_r ?_
   refine rg2 s5 hi1' ?_
   repeat refine c_r ?_
   exact⟨m - 1,by omega,rfl,i+1,by omega,vq0,(vq1 s2),(vq1 s3),(hEA.trans hx).trans hy,zdZ _ _ ht (ht2 rfl)⟩
  |false=>
   repeat refine c_r ?_
   refine wt Bool.not_false ?_
   repeat (first|refine c_r ?_|refine rg0 ?_)
   refine rt0 Tryz.ntmps150 ?_
   exact⟨hE1.trans ((hEA.trans hx).trans hy),_,rfl,fun h=>by cases h⟩
 intro hge
 simp only[decide_eq_false_iff_not]at hge
 have hnames:a.names=b.names:=by rwa [List.take_of_length_le (by omega),List.take_of_length_le (by omega)]at ht
 clear him hge s5 ht p1A q1A
 repeat refine c_r ?_
 refine rg0 ?_
 repeat refine c_r ?_
 refine zap (fun m σ ds B=>ds=[]∧∃(i:Nat),i+m=a.nums.length∧σ 6=vi i∧σ 2= .pointer (some ⟨w.heap.size,0,Option.none⟩)∧σ 3= .pointer (some ⟨w.heap.size+1,0,Option.none⟩)∧Ext w2 B∧a.nums.take i=b.nums.take i) a.nums.length ?_ ?_
 ·exact⟨rfl,0,by omega,vr0,(vq1 s2),(vq1 s3),hEA,rfl⟩
 clear s2 s3 hEA
 rintro m2 σ3 ds3 B ⟨rfl,i,him,s6,s2,s3,hEB,ht⟩
 have p2B:=zab hEB p2
 have q2B:=zab hEB q2
 repeat refine c_r ?_
 refine rg4 s6 s2 p2B Nat.zero_add ?_
 repeat refine c_r ?_
 refine wc0 ?_ ?_
 ·intro hlt
  simp only[decide_eq_true_eq]at hlt
  have hi:i<a.nums.length:=by omega
  have hi2:i<b.nums.length:=by omega
  have hi0:(0:Int)≤(i:Int):=by omega
  have hi1:(i:Int)<(b.nums.length:Int):=by omega
  have hi1':(i:Int)+1=((i+1:Nat):Int):=by push_cast;rfl
  have g1:=gc i hi
  have g2:=gd4 i hi2
  obtain⟨x1,rfl⟩:=Option.isSome_iff_exists.1 (zai g1)
  obtain⟨x2,rfl⟩:=Option.isSome_iff_exists.1 (zai g2)
  repeat refine c_r ?_
  refine zaN (fun _=>false) [(0,true),(1,true),(2,true),(3,true),(4,true),(5,true),(6,true),(7,true),(8,true),(9,true),(10,true)] NoS mixed (by kernel_rfl) ?_;intro gd K x hgd hx hxe hK;clear hxe
  have g1x:=zab (hE1.trans (hEB.trans hx)) g1
  have g2x:=zab (hE1.trans (hEB.trans hx)) g2
  have p2x:=zab hx p2B
  have q2x:=zab hx q2B
  simp (disch:=first|omega|assumption|rfl) only[go_sem,s6,s2,s3,hi0,hlt,hi1,g1x,g2x,p2x,q2x,Nat.mul_one,Nat.zero_add]
  refine hK _ _ ?_;clear hK hgd;clear K;try clear gd
  by_cases he:a.nums[i]=b.nums[i]
  ·repeat refine c_r ?_
   refine wf (an2 (decide_eq_true he) Bool.not_true) ?_
   repeat refine c_r ?_
   refine rg2 s6 hi1' ?_
   repeat refine c_r ?_
   exact⟨m2 - 1,by omega,rfl,i+1,by omega,vq0,(vq1 s2),(vq1 s3),hEB.trans hx,zdZ hi hi2 ht he⟩
  ·repeat refine c_r ?_
   refine wt (an2 (decide_eq_false he) Bool.not_false) ?_
   repeat (first|refine c_r ?_|refine rg0 ?_)
   refine rt0 Tryz.ntmps150 ?_
   exact⟨hE1.trans (hEB.trans hx),_,rfl,fun h=>by cases h⟩
 intro hge
 simp only[decide_eq_false_iff_not]at hge
 have hnums:a.nums=b.nums:=by rwa [List.take_of_length_le (by omega),List.take_of_length_le (by omega)]at ht
 have p3B:=zab hEB p3
 have q3B:=zab hEB q3
 rw[←htxe]at p3B
 rw[←huxe]at q3B
 repeat refine c_r ?_
 refine rc (an5 s2 s3 p3B q3B Nat.zero_add) (zlQ B (htx.ext (hE1.trans hEB)) (hux.ext (hE1.trans hEB)) kt) ?_
 rintro _ y ⟨hy,t,rfl,ht2⟩
 refine re trivial ?_
 repeat refine c_r ?_
 refine rt0 Tryz.ntmps150 ?_
 refine⟨hE1.trans (hEB.trans hy),_,rfl,fun h=>?_⟩
 obtain⟨t1,n1,u1,x1,r1⟩:=a
 obtain⟨t2,n2,u2,x2,r2⟩:=b
 dsimp only at e0 hnames hnums ht2 e4
 rw[e0,hnames,hnums,ht2 h,e4]
set_option maxHeartbeats 2000000 in
theorem Is5_ok(w:World){av bv:Value}{xs ys:List RecL}(ha:Rows 7 (RecAt w) w av xs)(hb:Rows 7 (RecAt w) w bv ys)(ko:∀r∈xs,r.owner.length≤1000000000000000∧DatN r.dat)(hl:xs.length≤1000000000):
  Fn Tryz.prog 91 #[av,bv] w (fun v w'=>Ext w w'∧∃t,v= .bool t∧(t=true→xs=ys)):=by
 obtain⟨a1,c1,rfl,_,h1⟩:=ha.open
 obtain⟨a2,c2,rfl,_,h2⟩:=hb.open
 refine enter Tryz.func91 Tryz.ntmps91 rfl rfl ?_
 repeat refine c_r ?_
 refine rg0 ?_
 repeat refine c_r ?_
 by_cases hn:(xs.length:Int)=(ys.length:Int)
 rotate_left
 ·refine rg1 (decide_eq_false hn) ?_
  repeat refine c_r ?_
  refine wt Bool.not_false ?_
  repeat (first|refine c_r ?_|refine rg0 ?_)
  refine rt0 Tryz.ntmps91 ?_
  exact⟨Keep.refl _ _,_,rfl,fun h=>by cases h⟩
 refine rg1 (decide_eq_true hn) ?_
 repeat refine c_r ?_
 refine wf Bool.not_true ?_
 repeat refine c_r ?_
 refine rg0 ?_
 repeat refine c_r ?_
 refine zap (fun m σ ds A=>ds=[]∧∃(i:Nat),i+m=xs.length∧σ 5=vi i∧σ 0= .slice a1 xs.length c1∧σ 1= .slice a2 ys.length c2∧Ext w A∧xs.take i=ys.take i) xs.length ?_ ?_
 ·exact⟨rfl,0,by omega,vr0,vq0,vq0,Keep.refl _ _,rfl⟩
 rintro m σ ds A ⟨rfl,i,him,s5,s0,s1,hEA,ht⟩
 repeat refine c_r ?_
 refine rg2 s5 s0 ?_
 repeat refine c_r ?_
 refine wc0 ?_ ?_
 ·intro hlt
  simp only[decide_eq_true_eq]at hlt
  have hi:i<xs.length:=by omega
  have hi2:i<ys.length:=by omega
  have hi0:(0:Int)≤(i:Int):=by omega
  have hi1:(i:Int)<(ys.length:Int):=by omega
  have hi1':(i:Int)+1=((i+1:Nat):Int):=by push_cast;rfl
  obtain⟨ca,hca,hRa⟩:=h1 i hi
  obtain⟨cb,hcb,hRb⟩:=h2 i hi2
  obtain⟨ko1,ko2⟩:=ko _ (List.getElem_mem hi)
  obtain⟨ra,hra⟩:∃r,xs[i]=r:=⟨_,rfl⟩
  obtain⟨rb,hrb⟩:∃r,ys[i]=r:=⟨_,rfl⟩
  rw[hra]at hRa ko1 ko2
  rw[hrb]at hRb
  obtain⟨oa,da,rfl,o1,e1⟩:=hRa.ex
  obtain⟨ob,db,rfl,o2,e2⟩:=hRb.ex
  have e1':=e1
  have e2':=e2
  obtain⟨na1,na2,na3,na4,rfl,_⟩:=e1.ex
  obtain⟨nb1,nb2,nb3,nb4,rfl,_⟩:=e2.ex
  obtain⟨x1,rfl⟩:=Option.isSome_iff_exists.1 (zan hca)
  obtain⟨x2,rfl⟩:=Option.isSome_iff_exists.1 (zan hcb)
  obtain⟨y1,hy1⟩:∃y,adr (some x1) (i*7)=some y:=⟨_,rfl⟩
  obtain⟨y2,hy2⟩:∃y,adr (some x2) (i*7)=some y:=⟨_,rfl⟩
  rw[hy1]at hca
  rw[hy2]at hcb
  obtain⟨u1,hu1⟩:∃y,adr (some y1) 1=some y:=⟨_,rfl⟩
  obtain⟨u2,hu2⟩:∃y,adr (some y2) 1=some y:=⟨_,rfl⟩
  obtain⟨z1,hz1⟩:∃y,adr (some y1) 2=some y:=⟨_,rfl⟩
  obtain⟨z2,hz2⟩:∃y,adr (some y2) 2=some y:=⟨_,rfl⟩
  repeat refine c_r ?_
  refine zaN (fun _=>false) [(0,true),(1,true),(2,true),(3,true),(4,true),(5,true),(6,true),(7,true),(8,true),(9,true),(10,false),(11,true),(12,true),(13,true),(14,true),(15,true),(16,true),(17,true),(18,true),(19,true),(20,true),(21,true),(22,true),(23,true),(24,true),(25,true),(26,true),(27,true),(28,true),(29,true),(30,true),(31,true),(32,true),(33,true),(34,true),(35,true),(36,false),(37,true),(38,true)] NoS mixed (by kernel_rfl) ?_;intro gd K x hgd hx hxe hK;clear hxe
  have hg12:∀n σ b,zas gd n σ (some (12,b))=zal (ev n σ (.tmp 29)) b:=(fun n σ b=>by rw[zad,show gd 12=some 29 from(by rw[hgd];rfl)];rfl);have hg25:∀n σ b,zas gd n σ (some (25,b))=zal (ev n σ (.tmp 42)) b:=(fun n σ b=>by rw[zad,show gd 25=some 42 from(by rw[hgd];rfl)];rfl)
  have hW:=hEA.trans hx
  have f0:zaf x (adr (some y1) 0)=some oa:=zaj (zae hW hca) rfl
  have f1:zaf x (adr (some y1) 1)=some (v32 ra.ttl):=zaj (zae hW hca) rfl
  have f2:zat x (adr (some y1) 2) 5=some [vi ra.dat.ty,na1,na2,na3,na4]:=za9 (m:=2) (k:=5) (zae hW hca)
  have g0:zaf x (adr (some y2) 0)=some ob:=zaj (zae hW hcb) rfl
  have g1:zaf x (adr (some y2) 1)=some (v32 rb.ttl):=zaj (zae hW hcb) rfl
  have g2:zat x (adr (some y2) 2) 5=some [vi rb.dat.ty,nb1,nb2,nb3,nb4]:=za9 (m:=2) (k:=5) (zae hW hcb)
  rw[zak]at f0 g0
  rw[hu1]at f1
  rw[hu2]at g1
  rw[hz1]at f2
  rw[hz2]at g2
  simp (disch:=first|omega|assumption|rfl) only[go_sem,s5,s0,s1,hi0,hlt,hi1,hy1,hy2,hu1,hu2,hz1,hz2,zak,f0,f1,f2,g0,g1,g2]
  refine Fn.mono (zlQ x (o1.ext hW) (o2.ext hW) ko1) ?_
  rintro _ y ⟨hy,t,rfl,ht2⟩
  refine⟨.inr hy,?_⟩
  cases t with
  |false=>
   simp (disch:=first|omega|assumption|rfl) only[go_sem,Bool.not_false,zaW,↓hg12,↓hg25]
   refine hK _ _ ?_;clear hK hgd;clear K;try clear gd
   repeat refine c_r ?_
   refine wt trivial ?_
   repeat (first|refine c_r ?_|refine rg0 ?_)
   refine rt0 Tryz.ntmps91 ?_
   exact⟨hW.trans hy,_,rfl,fun h=>by cases h⟩
  |true=>
  have f1y:=zab hy f1
  have f2y:=zae hy f2
  have g1y:=zab hy g1
  have g2y:=zae hy g2
  by_cases htt:ra.ttl=rb.ttl
  rotate_left
  ·simp (disch:=first|omega|assumption|rfl) only[go_sem,Bool.not_true,zaW,s5,s0,s1,hi0,hlt,hi1,hy1,hy2,hu1,hu2,f1y,g1y,decide_eq_false htt,Bool.not_false,↓hg12,↓hg25]
   refine hK _ _ ?_;clear hK hgd;clear K;try clear gd
   repeat refine c_r ?_
   refine wt trivial ?_
   repeat (first|refine c_r ?_|refine rg0 ?_)
   refine rt0 Tryz.ntmps91 ?_
   exact⟨hW.trans hy,_,rfl,fun h=>by cases h⟩
  simp (disch:=first|omega|assumption|rfl) only[go_sem,Bool.not_true,zaW,s5,s0,s1,hi0,hlt,hi1,hy1,hy2,hu1,hu2,f1y,g1y,decide_eq_true htt,hz1,hz2,f2y,g2y,↓hg12,↓hg25]
  refine Fn.mono (Is4_ok y (e1'.ext (hW.trans hy)) (e2'.ext (hW.trans hy)) ko2) ?_
  rintro _ z ⟨hz,t,rfl,ht4⟩
  refine⟨.inr hz,?_⟩
  simp (disch:=first|omega|assumption|rfl) only[go_sem,zaW,↓hg12,↓hg25]
  refine hK _ _ ?_;clear hK hgd;clear K;try clear gd
  have hWz:=(hW.trans hy).trans hz
  cases t with
  |false=>
   repeat refine c_r ?_
   refine wt Bool.not_false ?_
   repeat (first|refine c_r ?_|refine rg0 ?_)
   refine rt0 Tryz.ntmps91 ?_
   exact⟨hWz,_,rfl,fun h=>by cases h⟩
  |true=>
   have hrr:xs[i]=ys[i]:=by
    rw[hra,hrb]
    obtain⟨r1,r2,r3⟩:=ra
    obtain⟨r4,r5,r6⟩:=rb
    dsimp only at ht2 htt ht4
    rw[ht2 rfl,htt,ht4 rfl]
   repeat refine c_r ?_
   refine wf Bool.not_true ?_
   repeat refine c_r ?_
   refine rg2 s5 hi1' ?_
   repeat refine c_r ?_
   exact⟨m - 1,by omega,rfl,i+1,by omega,vq0,(vq1 s0),(vq1 s1),hWz,zdZ hi hi2 ht hrr⟩
 ·intro hge
  simp only[decide_eq_false_iff_not]at hge
  repeat (first|refine c_r ?_|refine rg0 ?_)
  refine rt0 Tryz.ntmps91 ?_
  refine⟨hEA,_,rfl,fun _=>?_⟩
  rwa [List.take_of_length_le (by omega),List.take_of_length_le (by omega)]at ht
def zfm{α:Type}(p:α→α→Bool):List α→List α→Bool
 | [],[]=>true
 |x::l,y::m=>p x y && zfm p l m
 |_,_=>false
theorem zfl{α:Type}{p:α→α→Bool}:∀{l m:List α},l.length≠m.length→zfm p l m=false
 | [],[],h=>absurd rfl h
 | [],_::_,_=>rfl
 |_::_,[],_=>rfl
 |x::l,y::m,h=>by
  simp only[zfm]
  rw[zfl (fun e=>h (by rw[List.length_cons,List.length_cons,e])),Bool.and_false]
theorem zf4{α:Type}{p:α→α→Bool}{l m:List α}{i:Nat}(hl:i<l.length)(hm:i<m.length):zfm p (l.drop i) (m.drop i)=(p l[i] m[i] && zfm p (l.drop (i+1)) (m.drop (i+1))):=by
 rw[List.drop_eq_getElem_cons hl,List.drop_eq_getElem_cons hm];rfl
end Go.Proofs.YtopbbjdembnfdaaGreat
namespace Go.Proofs.YtopbbjdembnfdaaGreat.P_ed
open Go Go.Proofs.YtopbbjdembnfdaaGreat
set_option maxRecDepth 10000
theorem zdd{α:Type}{w:World}{C D:List Value→α→Prop}{uv vv:Value}{xs ys:List α}{g:FuncId}{p:α→α→Bool}(hC:zdb 5 C)(hD:zdb 5 D)(hx:Rows 5 C w uv xs)(hy:Rows 5 D w vv ys)(hcal:zaa Tryz.prog g=true)
  (hcall:∀(A:World) (cs ds:List Value) (x y:α),Ext w A→x∈xs→y∈ys→C cs x→D ds y→Fn Tryz.prog g #[.agg cs.toArray,.agg ds.toArray] A (fun v A'=>v= .bool (p x y)∧Ext A A')) (hxl:xs.length≤1000000000) (hyl:ys.length≤1000000000):
  Fn Tryz.prog 79 #[uv,vv,.func (.func g) #[] #[]] w (fun v w'=>v= .bool (zfm p xs ys)∧Ext w w'):=by
 obtain⟨ax,cx,rfl,hcx,hgx⟩:=hx.open
 obtain⟨ay,cy,rfl,hcy,hgy⟩:=hy.open
 refine enter Tryz.func79 Tryz.ntmps79 rfl rfl ?_
 repeat refine c_r ?_
 refine rg0 ?_
 repeat refine c_r ?_
 refine rg0 ?_
 repeat refine c_r ?_
 refine wc0 ?_ ?_
 ·intro hne
  simp only[Bool.not_eq_true',decide_eq_false_iff_not]at hne
  repeat (first|refine c_r ?_|refine rg0 ?_)
  refine rt0 Tryz.ntmps79 ?_
  exact⟨by rw[zfl (by omega)],Keep.refl _ _⟩
 intro heq
 simp only[Bool.not_eq_false',decide_eq_true_eq]at heq
 have hlen:xs.length=ys.length:=by omega
 repeat refine c_r ?_
 refine rg0 ?_
 repeat refine c_r ?_
 refine zap (fun m σ ds A=>ds=[]∧∃(i:Nat),i+m=xs.length∧σ 17=vi i∧σ 16=vi xs.length∧σ 15= .slice ax xs.length cx∧σ 1= .slice ay ys.length cy∧σ 2= .func (.func g) #[] #[]∧Ext w A∧zfm p xs ys=zfm p (xs.drop i) (ys.drop i)) xs.length ?_ ?_
 ·exact⟨rfl,0,by omega,vr0,vr0,vq0,vq0,vq0,Keep.refl _ _,rfl⟩
 rintro m σ ds A ⟨rfl,i,him,h17,h16,h15,h1,h2,hEA,hinv⟩
 repeat refine c_r ?_
 refine rg2 h17 h16 ?_
 repeat refine c_r ?_
 refine wc0 ?_ ?_
 ·intro hlt
  simp only[decide_eq_true_eq]at hlt
  have hix:i<xs.length:=by omega
  have hiy:i<ys.length:=by omega
  have hi0:(0:Int)≤(i:Int):=by omega
  have hi1:(i:Int)<(xs.length:Int):=by omega
  have hi2:(i:Int)<(ys.length:Int):=by omega
  have hi1':(i:Int)+1=((i+1:Nat):Int):=by push_cast;rfl
  obtain⟨cs,hcs,hCx⟩:=hgx i hix
  obtain⟨es,hes,hDy⟩:=hgy i hiy
  obtain⟨zx,rfl⟩:=Option.isSome_iff_exists.1 (zan hcs)
  obtain⟨zy,rfl⟩:=Option.isSome_iff_exists.1 (zan hes)
  have d1:=zae hEA hcs
  repeat refine c_r ?_
  refine rq ?_;intro gd K hgd hK
  try simp (disch:=first|omega|assumption|rfl) only[go_sem,h15,h17,hi0,hi1,d1]
  refine zaE (P:=Tryz.prog) (t:=59) (l:=cs) (zaw A _) (hC.len hCx) (hC.ones hCx) (by rw[hC.len hCx];rfl) rfl ?_
  intro A3 hs5 hB5 hk5
  try simp only[go_sem]
  refine hK _ _ ?_;clear hK hgd;clear K;try clear gd
  rw[zam]at hs5
  have hE5:Ext A A3:=Keep.to_ext (Ext.alloc A _) rfl (fun b hb=>by omega) hk5
  clear hk5
  have d2:=zae (hEA.trans hE5) hes
  repeat refine c_r ?_
  refine rq ?_;intro gd K hgd hK
  try simp (disch:=first|omega|assumption|rfl) only[go_sem,h1,hi0,hi2,d2]
  refine zaE (P:=Tryz.prog) (t:=59) (l:=es) (zaw A3 _) (hD.len hDy) (hD.ones hDy) (by rw[hD.len hDy];rfl) rfl ?_
  intro A4 hs6 hB6 hk6
  try simp only[go_sem]
  refine hK _ _ ?_;clear hK hgd;clear K;try clear gd
  rw[zam]at hs6
  have hE6:Ext A3 A4:=Keep.to_ext (Ext.alloc A3 _) rfl (fun b hb=>by omega) hk6
  clear hk6
  have q1:=zah (n:=5) (hE6.at hB5) (hC.len hCx).symm
  have q2:=zah (n:=5) hB6 (hD.len hDy).symm
  have hst:=zf4 (p:=p) hix hiy
  repeat refine c_r ?_
  refine rq ?_;intro gd K hgd hK
  try simp (disch:=first|omega|assumption|rfl) only[go_sem,h2,q1,q2]
  refine zb5 hcal (Fn.mono (hcall A4 cs es xs[i] ys[i] ((hEA.trans hE5).trans hE6) (List.getElem_mem hix) (List.getElem_mem hiy) hCx hDy) ?_)
  rintro _ A5 ⟨rfl,hE7⟩
  try simp only[go_sem]
  refine hK _ _ ?_;clear hK hgd;clear K;try clear gd
  repeat refine c_r ?_
  refine wc0 ?_ ?_
  ·intro hf
   simp only[Bool.not_eq_true']at hf
   repeat (first|refine c_r ?_|refine rg0 ?_)
   refine rt0 Tryz.ntmps79 ?_
   exact⟨by rw[hinv,hst,hf,Bool.false_and],((hEA.trans hE5).trans hE6).trans hE7⟩
  ·intro ht
   simp only[Bool.not_eq_false']at ht
   repeat refine c_r ?_
   refine rg2 h17 hi1' ?_
   repeat refine c_r ?_
   exact⟨m - 1,by omega,rfl,i+1,by omega,vq0,(vq1 h16),(vq1 h15),(vq1 h1),(vq1 h2),((hEA.trans hE5).trans hE6).trans hE7,by rw[hinv,hst,ht,Bool.true_and]⟩
 ·intro hge
  simp only[decide_eq_false_iff_not]at hge
  have e1:xs.drop i=[]:=List.drop_eq_nil_of_le (by omega)
  have e2:ys.drop i=[]:=List.drop_eq_nil_of_le (by omega)
  repeat (first|refine c_r ?_|refine rg0 ?_)
  refine rt0 Tryz.ntmps79 ?_
  exact⟨by rw[hinv,e1,e2];rfl,hEA⟩
end Go.Proofs.YtopbbjdembnfdaaGreat.P_ed
namespace Go.Proofs.YtopbbjdembnfdaaGreat.P_eg
open Go Go.Proofs.YtopbbjdembnfdaaGreat
set_option maxRecDepth 10000
theorem zdd{α:Type}{w:World}{C D:List Value→α→Prop}{uv vv:Value}{xs ys:List α}{g:FuncId}{p:α→α→Bool}(hC:zdb 2 C)(hD:zdb 2 D)(hx:Rows 2 C w uv xs)(hy:Rows 2 D w vv ys)(hcal:zaa Tryz.prog g=true)
  (hcall:∀(A:World) (cs ds:List Value) (x y:α),Ext w A→x∈xs→y∈ys→C cs x→D ds y→Fn Tryz.prog g #[.agg cs.toArray,.agg ds.toArray] A (fun v A'=>v= .bool (p x y)∧Ext A A')) (hxl:xs.length≤1000000000) (hyl:ys.length≤1000000000):
  Fn Tryz.prog 81 #[uv,vv,.func (.func g) #[] #[]] w (fun v w'=>v= .bool (zfm p xs ys)∧Ext w w'):=by
 obtain⟨ax,cx,rfl,hcx,hgx⟩:=hx.open
 obtain⟨ay,cy,rfl,hcy,hgy⟩:=hy.open
 refine enter Tryz.func81 Tryz.ntmps81 rfl rfl ?_
 repeat refine c_r ?_
 refine rg0 ?_
 repeat refine c_r ?_
 refine rg0 ?_
 repeat refine c_r ?_
 refine wc0 ?_ ?_
 ·intro hne
  simp only[Bool.not_eq_true',decide_eq_false_iff_not]at hne
  repeat (first|refine c_r ?_|refine rg0 ?_)
  refine rt0 Tryz.ntmps81 ?_
  exact⟨by rw[zfl (by omega)],Keep.refl _ _⟩
 intro heq
 simp only[Bool.not_eq_false',decide_eq_true_eq]at heq
 have hlen:xs.length=ys.length:=by omega
 repeat refine c_r ?_
 refine rg0 ?_
 repeat refine c_r ?_
 refine zap (fun m σ ds A=>ds=[]∧∃(i:Nat),i+m=xs.length∧σ 17=vi i∧σ 16=vi xs.length∧σ 15= .slice ax xs.length cx∧σ 1= .slice ay ys.length cy∧σ 2= .func (.func g) #[] #[]∧Ext w A∧zfm p xs ys=zfm p (xs.drop i) (ys.drop i)) xs.length ?_ ?_
 ·exact⟨rfl,0,by omega,vr0,vr0,vq0,vq0,vq0,Keep.refl _ _,rfl⟩
 rintro m σ ds A ⟨rfl,i,him,h17,h16,h15,h1,h2,hEA,hinv⟩
 repeat refine c_r ?_
 refine rg2 h17 h16 ?_
 repeat refine c_r ?_
 refine wc0 ?_ ?_
 ·intro hlt
  simp only[decide_eq_true_eq]at hlt
  have hix:i<xs.length:=by omega
  have hiy:i<ys.length:=by omega
  have hi0:(0:Int)≤(i:Int):=by omega
  have hi1:(i:Int)<(xs.length:Int):=by omega
  have hi2:(i:Int)<(ys.length:Int):=by omega
  have hi1':(i:Int)+1=((i+1:Nat):Int):=by push_cast;rfl
  obtain⟨cs,hcs,hCx⟩:=hgx i hix
  obtain⟨es,hes,hDy⟩:=hgy i hiy
  obtain⟨zx,rfl⟩:=Option.isSome_iff_exists.1 (zan hcs)
  obtain⟨zy,rfl⟩:=Option.isSome_iff_exists.1 (zan hes)
  have d1:=zae hEA hcs
  repeat refine c_r ?_
  refine rq ?_;intro gd K hgd hK
  try simp (disch:=first|omega|assumption|rfl) only[go_sem,h15,h17,hi0,hi1,d1]
  refine zaE (P:=Tryz.prog) (t:=112) (l:=cs) (zaw A _) (hC.len hCx) (hC.ones hCx) (by rw[hC.len hCx];rfl) rfl ?_
  intro A3 hs5 hB5 hk5
  try simp only[go_sem]
  refine hK _ _ ?_;clear hK hgd;clear K;try clear gd
  rw[zam]at hs5
  have hE5:Ext A A3:=Keep.to_ext (Ext.alloc A _) rfl (fun b hb=>by omega) hk5
  clear hk5
  have d2:=zae (hEA.trans hE5) hes
  repeat refine c_r ?_
  refine rq ?_;intro gd K hgd hK
  try simp (disch:=first|omega|assumption|rfl) only[go_sem,h1,hi0,hi2,d2]
  refine zaE (P:=Tryz.prog) (t:=112) (l:=es) (zaw A3 _) (hD.len hDy) (hD.ones hDy) (by rw[hD.len hDy];rfl) rfl ?_
  intro A4 hs6 hB6 hk6
  try simp only[go_sem]
  refine hK _ _ ?_;clear hK hgd;clear K;try clear gd
  rw[zam]at hs6
  have hE6:Ext A3 A4:=Keep.to_ext (Ext.alloc A3 _) rfl (fun b hb=>by omega) hk6
  clear hk6
  have q1:=zah (n:=2) (hE6.at hB5) (hC.len hCx).symm
  have q2:=zah (n:=2) hB6 (hD.len hDy).symm
  have hst:=zf4 (p:=p) hix hiy
  repeat refine c_r ?_
  refine rq ?_;intro gd K hgd hK
  try simp (disch:=first|omega|assumption|rfl) only[go_sem,h2,q1,q2]
  refine zb5 hcal (Fn.mono (hcall A4 cs es xs[i] ys[i] ((hEA.trans hE5).trans hE6) (List.getElem_mem hix) (List.getElem_mem hiy) hCx hDy) ?_)
  rintro _ A5 ⟨rfl,hE7⟩
  try simp only[go_sem]
  refine hK _ _ ?_;clear hK hgd;clear K;try clear gd
  repeat refine c_r ?_
  refine wc0 ?_ ?_
  ·intro hf
   simp only[Bool.not_eq_true']at hf
   repeat (first|refine c_r ?_|refine rg0 ?_)
   refine rt0 Tryz.ntmps81 ?_
   exact⟨by rw[hinv,hst,hf,Bool.false_and],((hEA.trans hE5).trans hE6).trans hE7⟩
  ·intro ht
   simp only[Bool.not_eq_false']at ht
   repeat refine c_r ?_
   refine rg2 h17 hi1' ?_
   repeat refine c_r ?_
   exact⟨m - 1,by omega,rfl,i+1,by omega,vq0,(vq1 h16),(vq1 h15),(vq1 h1),(vq1 h2),((hEA.trans hE5).trans hE6).trans hE7,by rw[hinv,hst,ht,Bool.true_and]⟩
 ·intro hge
  simp only[decide_eq_false_iff_not]at hge
  have e1:xs.drop i=[]:=List.drop_eq_nil_of_le (by omega)
  have e2:ys.drop i=[]:=List.drop_eq_nil_of_le (by omega)
  repeat (first|refine c_r ?_|refine rg0 ?_)
  refine rt0 Tryz.ntmps81 ?_
  exact⟨by rw[hinv,e1,e2];rfl,hEA⟩
end Go.Proofs.YtopbbjdembnfdaaGreat.P_eg
namespace Go.Proofs.YtopbbjdembnfdaaGreat
open Go
set_option maxRecDepth 10000
structure zjM(r:ResL):Prop where
 nm:NmS r.name
 dat:∀d∈r.data,DatOk d
 dl:r.data.length≤1000000000
 gl:r.glue.length≤1000000000
 g:∀x∈r.glue,NmS x.1∧(∀d∈x.2,DatOk d)∧x.2.length≤1000000000
theorem DatX.cells{w0 A:World}{B:Nat}{nm:Value}{cs:List Value}{d:DatL}(h:DatX w0 B A nm cs d):cs.length=5∧∀q∈cs,one q=true:=by
 obtain⟨b1,m1,e1,b2,m2,e2,b3,m3,e3,b4,m4,e4,hds⟩:=h.open
 rw[hds]
 refine⟨rfl,fun q hq=>?_⟩
 simp at hq
 rcases hq with rfl|rfl|rfl|rfl|rfl<;>rfl
def NumR(R:List RecL):Prop:=∀r∈R,∀n∈r.dat.nums,0≤n∧n≤4294967295
theorem zhz{n:Nm}(h:zaF n=0):LB n:=fun l hl=>by have:=(zbu h l hl).2;omega
theorem good_dat{R:List RecL}(h:zeF R)(hv:NumR R):∀r∈R,DatOk r.dat:=fun r hr=>by
 have hf:=(h.few r hr).2
 exact⟨fun n hn=>⟨zhz (h.names r hr n hn),by have:=(hf.names n hn).2;omega⟩,by have:=hf.nn;omega,by have:=hf.nu;omega,by have:=hf.nt;omega,hv r hr,by have:=hf.nr;omega⟩
theorem zgz{R:List RecL}(h:zeF R)(hv:NumR R):∀r∈R,zbn r:=fun r hr=>
 ⟨zhz (h.own r hr),by have:=zf9 (h.own r hr);omega,good_dat h hv r hr⟩
structure GoodC(R:List RecL):Prop where
 ok:∀r∈R,zbn r
 srt:zdI R
 gd:zdw R
 ld:LeadR R
 len:R.length≤60
 nn:∀r∈R,r.dat.names.length≤1000000000
theorem zju{R:List RecL}(h:zeF R)(hv:NumR R):GoodC (zaP R):=by
 refine⟨zbF (fun a b h=>⟨h.lb,h.len,h.dat⟩) (zgz h hv),zgG R,?_,?_,Nat.le_trans (zcb R) h.len,?_⟩
 ·exact zbF (Q:=fun r=>∀n∈r.dat.names,NmG n) (fun a b h=>h) (fun r hr n hn=>zd4 (h.names r hr n hn))
 ·refine zbF (Q:=fun r=>(r.dat.ty=2∨r.dat.ty=5∨r.dat.ty=39)→r.dat.names≠ []) (fun a b h=>h) (fun r hr ht hn=>?_)
  have:=h.lead r hr ht
  rw[hn]at this
  cases this
 ·exact zbF (Q:=fun r=>r.dat.names.length≤1000000000) (fun a b h=>h) (fun r hr=>(h.few r hr).2.nn)
theorem zkZ{w0 w:World}{ov lv:Value}{o:Nm}{R:List RecL}(h:GoodC R)(hE:Ext w0 w)(ho:Row w ov (o.map vs))(hl:Rows 7 (RecAt w0) w lv R)(hg:zcT o=true):ZnAt w0 w ov lv o R:=
 ⟨hE,ho,hl,(zcr hg).m.s.lb,(zcr hg).m.s.len,h.ok,by have:=h.len;omega⟩
structure ResF(P:DatL→Prop)(m:Nat)(r:ResL):Prop where
 nm:NmS r.name
 dat:∀d∈r.data,P d
 dl:r.data.length≤m
 gl:r.glue.length≤m
 g:∀x∈r.glue,NmS x.1∧(∀d∈x.2,P d)∧x.2.length≤m+m
theorem zbQ{P:DatL→Prop}{m:Nat}{k:Int}{ds:List DatL}{n:Nm}{b:Bool}(hn:NmS n)(hd:∀d∈ds,P d)(hl:ds.length≤m):ResF P m ⟨k,ds,n,b,[]⟩:=
 ⟨hn,hd,hl,Nat.zero_le _,fun x h=>by cases h⟩
theorem zjp:NmS []:=⟨fun l h=>(by cases h),Nat.zero_le _⟩
section
variable {P : DatL → Prop} {R : List RecL} {o : Nm}
theorem zht(hP:∀r∈R,P r.dat){n:Nm}{t:Int}:∀d∈datC R n t,P d:=fun d hd=>by
 obtain⟨r,hr,rfl⟩:=zdo hd
 exact hP r hr
theorem refer_F(hP:∀r∈R,P r.dat)(hG:zdw R){n:Nm}(hn:NmS n):ResF P R.length (zeu R n):=by
 refine⟨hn,zht hP,zbe,?_,fun x hx=>?_⟩
 ·exact Nat.le_trans (zfZ _ _) (Nat.le_trans (zdk _ _) (Nat.le_trans (ze2 _ _) zbe))
 ·obtain⟨h,hh,he⟩:=List.mem_filterMap.1 hx
  split at he
  ·cases he
  ·cases he
   refine⟨(zb0 hG (n:=n) (t:=2) (fun d hd=>hd) h (zb9 _ _ h hh)).m.s,fun d hd=>?_,?_⟩
   ·unfold zbd at hd
    rcases List.mem_append.1 hd with hd|hd
    ·exact zht hP d hd
    ·exact zht hP d hd
   ·have h1:=zbe (R:=R) (n:=h) (t:=1)
    have h2:=zbe (R:=R) (n:=h) (t:=28)
    show(zbd R h).length≤_
    unfold zbd
    rw[List.length_append];omega
theorem ziz(hP:∀r∈R,P r.dat){n:Nm}{t:Int}:(∀d∈(datC R n t).take 1,P d)∧((datC R n t).take 1).length≤R.length:=
 ⟨fun d hd=>zht hP d (List.mem_of_mem_take hd),by have:=zbe (R:=R) (n:=n) (t:=t);rw[List.length_take];omega⟩
theorem zkl(hP:∀r∈R,P r.dat)(hG:zdw R){q n:Nm}(hq:NmM q){r:ResL}(h:zaG R q n=some r):ResF P R.length r:=by
 unfold zaG at h
 split at h
 ·cases h
 ·split at h
  ·cases h
   have hm:=zjY hq (toN_m hG (n:=n) (t:=39) (u:=39)) (f:=n)
   exact zbQ ⟨fun l hl=>by have:=hm.1 l hl;omega,by have:=hm.2;omega⟩ (ziz hP).1 (ziz hP).2
  ·cases h
   exact zbQ zjp (fun d h=>by cases h) (Nat.zero_le _)
theorem at_F(hP:∀r∈R,P r.dat)(hG:zdw R){n:Nm}{t:Int}{b:Bool}:ResF P R.length (atL R n t b):=by
 unfold atL
 split
 ·exact zbQ zjp (zht hP) zbe
 ·split
  ·exact zbQ (toN_m hG).s (ziz hP).1 (ziz hP).2
  ·exact zbQ zjp (fun d h=>by cases h) (Nat.zero_le _)
theorem go_F(hP:∀r∈R,P r.dat)(hG:zdw R){q:Nm}(hq:NmM q):∀{l:List Nm} {r:ResL},(∀n∈l,NmS n)→goL o R q l=some r→ResF P R.length r
 | [],r,_,h=>by cases h
 |n::l,r,hl,h=>by
  simp only[goL]at h
  split at h
  ·cases h
   exact refer_F hP hG (hl n (List.mem_cons_self ..))
  ·split at h
   ·cases h
   ·split at h
    ·rename_i r' hr
     cases h
     exact zkl hP hG hq hr
    ·exact go_F hP hG hq (fun x hx=>hl x (List.mem_cons_of_mem _ hx)) h
theorem look_F(hP:∀r∈R,P r.dat)(hG:zdw R){q:Nm}{t:Int}(hq:NmM q):ResF P R.length (za3 o R q t):=by
 unfold za3
 split
 ·exact zbQ zjp (fun d h=>by cases h) (Nat.zero_le _)
 ·split
  ·rename_i r hr
   refine go_F hP hG hq (fun n hn=>?_) hr
   unfold za8 at hn
   split at hn
   ·obtain⟨i,_,rfl⟩:=zbH.1 hn
    exact(hq.drop i).s
   ·cases hn
  ·split
   ·exact at_F hP hG
   ·split
    ·exact at_F hP hG
    ·exact zbQ zjp (fun d h=>by cases h) (Nat.zero_le _)
end
theorem look_ok{R:List RecL}(h:GoodC R){o q:Nm}{t:Int}(hq:NmM q):zjM (za3 o R q t):=by
 have h1:=look_F (o:=o) (P:=DatOk) (fun r hr=>(h.ok r hr).dat) h.gd (t:=t) hq
 have hl:=h.len
 exact⟨h1.nm,h1.dat,by have:=h1.dl;omega,by have:=h1.gl;omega,fun x hx=>by
  obtain⟨a,b,c⟩:=h1.g x hx
  exact⟨a,b,by omega⟩⟩
structure zci where
 o:Nm
 recs:List RecL
structure zd8 where
 name:Nm
 addr:List UInt8
 zones:List zci
structure NetL where
 hosts:List zd8
 roots:List Int
 rw:Int
 rf:Int
structure ZoneC(w:World)(cs:List Value)(z:zci):Prop where
 ex:∃ov lv,cs=[ov,lv]∧Row w ov (z.o.map vs)∧Rows 7 (RecAt w) w lv z.recs
structure HostC(w:World)(cs:List Value)(h:zd8):Prop where
 ex:∃nv a b c d zv,cs=[nv,zag a,zag b,zag c,zag d,zv]∧h.addr=[a,b,c,d]∧Row w nv (h.name.map vs)∧Rows 2 (ZoneC w) w zv h.zones
structure NetAt(w:World)(cs:List Value)(N:NetL):Prop where
 ex:∃hv rv,cs=[hv,rv,vi N.rw,vi N.rf]∧Rows 6 (HostC w) w hv N.hosts∧Row w rv (N.roots.map vi)
theorem Rows.extC{α:Type}{k:Nat}{C:World→List Value→α→Prop}{w x:World}{v:Value}{l:List α}(hC:∀cs a,C w cs a→C x cs a)(h:Rows k (C w) w v l)(hE:Ext w x):Rows k (C x) x v l:=(h.ext hE).to hC
theorem ZoneC.ext{w x:World}{cs:List Value}{z:zci}(h:ZoneC w cs z)(hE:Ext w x):ZoneC x cs z:=by
 obtain⟨ov,lv,e,h1,h2⟩:=h.ex
 exact⟨ov,lv,e,h1.ext hE,Rows.extC (fun _ _ h=>RecAt.ext h hE) h2 hE⟩
theorem HostC.ext{w x:World}{cs:List Value}{z:zd8}(h:HostC w cs z)(hE:Ext w x):HostC x cs z:=by
 obtain⟨nv,a,b,c,d,zv,e,ha,h1,h2⟩:=h.ex
 exact⟨nv,a,b,c,d,zv,e,ha,h1.ext hE,Rows.extC (fun _ _ h=>ZoneC.ext h hE) h2 hE⟩
theorem NetAt.ext{w x:World}{cs:List Value}{z:NetL}(h:NetAt w cs z)(hE:Ext w x):NetAt x cs z:=by
 obtain⟨hv,rv,e,h1,h2⟩:=h.ex
 exact⟨hv,rv,e,Rows.extC (fun _ _ h=>HostC.ext h hE) h1 hE,h2.ext hE⟩
structure GoodZ(z:zci):Prop where
 o:zcT z.o=true
 gd:zeF z.recs
 nv:NumR z.recs
 can:zaP z.recs=z.recs
theorem GoodZ.c{z:zci}(h:GoodZ z):GoodC z.recs:=h.can▸zju h.gd h.nv
theorem GoodZ.m{z:zci}(h:GoodZ z):NmM z.o:=(zcr h.o).m
theorem GoodZ.zn{w0 w:World}{ov lv:Value}{z:zci}(h:GoodZ z)(hE:Ext w0 w)(ho:Row w ov (z.o.map vs))(hl:Rows 7 (RecAt w0) w lv z.recs):ZnAt w0 w ov lv z.o z.recs:=zkZ h.c hE ho hl h.o
structure NetZ(N:NetL):Prop where
 hl:N.hosts.length≤1000
 nm:∀h∈N.hosts,NmM h.name
 zl:∀h∈N.hosts,h.zones.length≤1000
 z:∀h∈N.hosts,∀z∈h.zones,GoodZ z
 rl:N.roots.length≤1000
def NetL.zones(N:NetL)(s:Int):List zci:=if s<0 then [] else match N.hosts[s.toNat]? with
 |some h=>h.zones
 |Option.none=>[]
def zaU(q:Nm)(b:Int×Int)(x:Nat×zci):Int×Int:=if zaY q x.2.o=true∧b.2<(x.2.o.length:Int) then((x.1:Int),(x.2.o.length:Int)) else b
def numZ:Nat→List zci→List (Nat×zci)
 |_,[]=>[]
 |i,z::l=>(i,z)::numZ (i+1) l
def zil(q:Nm)(l:List zci):Int×Int:=(numZ 0 l).foldl (zaU q) (0, -1)
def zbN(N:NetL)(s:Int)(q:Nm):Int×Bool:=let b:=zil q (N.zones s);(b.1,decide (0≤b.2))
def askN(N:NetL)(s:Int)(q:Nm)(t:Int):ResL:=if (zbN N s q).2=true then match (N.zones s)[(zbN N s q).1.toNat]? with
  |some z=>za3 z.o z.recs q t
  |Option.none=>⟨7,[],[],false,[]⟩
 else⟨7,[],[],false,[]⟩
theorem zbR:∀{l:List zci} {i:Nat},(numZ i l).length=l.length
 | [],_=>rfl
 |_::l,i=>by simp[numZ,zbR (l:=l)]
theorem zdW:∀{l:List zci} {i j:Nat} (h:j<l.length) (h':j<(numZ i l).length),(numZ i l)[j]=(i+j,l[j])
 | [],_,_,h,_=>absurd h (by simp)
 |_::l,i,0,_,_=>by simp[numZ]
 |_::l,i,j+1,h,h'=>by
  simp only[numZ,List.getElem_cons_succ]
  rw[zdW (by simpa using h)]
  exact Prod.ext (by dsimp only;omega) rfl
theorem zlr(q:Nm):∀{l:List (Nat×zci)} {b:Int×Int} {m:Nat},(∀x∈l,x.1<m)→((0≤b.2→0≤b.1∧b.1<m))→0≤(l.foldl (zaU q) b).2→0≤(l.foldl (zaU q) b).1∧(l.foldl (zaU q) b).1<m
 | [],b,m,_,h,h2=>h h2
 |x::l,b,m,hx,h,h2=>by
  rw[List.foldl_cons]at h2 ⊢
  refine zlr q (fun y hy=>hx y (List.mem_cons_of_mem _ hy)) (fun h3=>?_) h2
  unfold zaU at h3 ⊢
  split at h3
  ·rename_i hc
   rw[if_pos hc]
   have:=hx x (List.mem_cons_self ..)
   exact⟨by dsimp only;omega,by dsimp only;omega⟩
  ·rename_i hc
   rw[if_neg hc];exact h h3
theorem zi3{N:NetL}{s:Int}{q:Nm}(h:(zbN N s q).2=true):0≤(zbN N s q).1∧(zbN N s q).1<((N.zones s).length:Int):=by
 unfold zbN zil at*
 simp only[decide_eq_true_eq]at h
 refine zlr q (fun x hx=>?_) (fun h=>absurd h (by decide)) h
 obtain⟨i,hi,rfl⟩:=List.mem_iff_getElem.1 hx
 rw[zdW (by rw[zbR]at hi;exact hi)]
 have:=hi
 rw[zbR]at this
 dsimp only;omega
theorem zbO{N:NetL}(h:NetZ N){s:Int}:(∀z∈N.zones s,GoodZ z)∧(N.zones s).length≤1000:=by
 unfold NetL.zones
 split
 ·exact⟨fun z h=>absurd h (by simp),by simp⟩
 ·cases hh:N.hosts[s.toNat]? with
  |none=>exact⟨fun z h=>absurd h (by simp),by simp⟩
  |some x=>exact⟨h.z x (List.mem_of_getElem? hh),h.zl x (List.mem_of_getElem? hh)⟩
section
variable {P : Program} {x : World} {e : TypeId} {K : Value → World → Prop}
theorem zbo{t:TypeId}{cur:Array Value}{l:List Value}(hl:l.length=cur.size)(h1:∀v∈l,one v=true)(hs:tyS P t=l.length)(hi:(P.info? t).isSome=true)
  (hK:∀w',Ext x w'→w'.heap.size=x.heap.size+1→w'.heap[x.heap.size]? =some (.cells l.toArray e (0,0))→K undef w'):stK P t (.pointer (some ⟨x.heap.size,0,Option.none⟩)) (.agg l.toArray) (x.alloc (.cells cur e (0,0))) K:=by
 have hB3:=zaw x (.cells cur e (0,0))
 have hE4:=Ext.alloc x (.cells cur e (0,0))
 have hs4:=zam x (.cells cur e (0,0))
 refine zaE (P:=P) (t:=t) (l:=l) hB3 hl h1 hs hi ?_
 intro w5 hs5 hB5 hk5
 exact hK w5 (Keep.to_ext hE4 rfl (fun b hb=>by omega) hk5) (by omega) hB5
theorem Row.isOne{w:World}{v:Value}{l:List Value}(h:Row w v l):one v=true:=by
 obtain⟨a,c,rfl,_⟩:=h;rfl
theorem Rows.isOne{α:Type}{k:Nat}{C:List Value→α→Prop}{w:World}{v:Value}{l:List α}(h:Rows k C w v l):one v=true:=by
 obtain⟨a,c,rfl,_⟩:=h.open;rfl
theorem zd9{a b:Value}(ha:one a=true)(hb:one b=true):∀v∈ [a,b],one v=true:=fun v h=>by
 simp at h
 rcases h with rfl|rfl<;>assumption
end
def encZ(w0:World)(x:Nat×zci)(_:World)(args:Array Value):Prop:=∃ov lv,args=#[vi x.1,.agg #[ov,lv]]∧Row w0 ov (x.2.o.map vs)∧Rows 7 (RecAt w0) w0 lv x.2.recs
theorem zcN{n0:Nat}{C:Nat→Prop}{a b:World}(h:Ext a b)(hn:n0≤a.heap.size):KeepB n0 C a b:=Keep.toB h hn (fun _ _ h=>h.elim)
theorem zones_ok(w:World){hv rv:Value}{s a b:Int}:
  Fn Tryz.prog 157 #[.agg #[hv,rv,vi a,vi b],vi s] w (fun v w'=>v= .func (.func 197) #[] #[.pointer (some ⟨w.heap.size+1,0,Option.none⟩),.pointer (some ⟨w.heap.size,0,Option.none⟩)]∧Ext w w'∧w'.heap.size=w.heap.size+2∧
   w'.heap[w.heap.size]? =some (.cells #[hv,rv,vi a,vi b] 65 (0,0))∧w'.heap[w.heap.size+1]? =some (.cells #[vi s] 3 (0,0))):=by
 refine enter Tryz.func157 Tryz.ntmps157 rfl rfl ?_
 repeat refine c_r ?_
 refine rg0 ?_
 repeat refine c_r ?_
 rw[zam]
 refine zaH ?_
 intro w1 hE1 hs1 hA hC
 refine rg0 ?_
 repeat refine c_r ?_
 refine rt0 Tryz.ntmps157 ?_
 exact⟨rfl,hE1,hs1,hA,hC⟩
theorem zonesIt{w0 W0:World}{C:Nat→Prop}{sb nb:Nat}{hv rv:Value}{s:Int}{N:NetL}(hE0:Ext w0 W0)(hbs:W0.heap[sb]? =some (.cells #[vi s] 3 (0,0)))(hbn:W0.heap[nb]? =some (.cells #[hv,rv,vi N.rw,vi N.rf] 65 (0,0)))
  (hh:Rows 6 (HostC w0) w0 hv N.hosts) (hC:∀b,C b→w0.heap.size≤b) (hN:NetZ N):
  Iter Tryz.prog 197 #[.pointer (some ⟨sb,0,Option.none⟩),.pointer (some ⟨nb,0,Option.none⟩)] W0 W0.heap.size C (numZ 0 (N.zones s)) (encZ w0):=by
 intro lp J Jx W hW hnW hJ hJx hY h0
 obtain⟨ah,ch,rfl,hch,hgh⟩:=hh.open
 have hl:=hN.hl
 have ps:zaf W (some ⟨sb,0,Option.none⟩)=some (vi s):=zab hW (zac hbs rfl)
 have pn:zaf W (some ⟨nb,0,Option.none⟩)=some (.slice ah N.hosts.length ch):=zab hW (zac hbn rfl)
 refine enter Tryz.func197 Tryz.ntmps197 rfl rfl ?_
 repeat refine c_r ?_
 by_cases h1:s<0
 ·refine rgg [(2,8)] (an3 ps (decide_eq_true h1) Nat.add_zero) ?_
  repeat refine c_r ?_
  refine wt trivial ?_
  repeat refine c_r ?_
  refine zaJ (by simp) rfl (.inl ?_)
  unfold NetL.zones
  rw[if_pos h1];exact h0
 by_cases h2:(N.hosts.length:Int)≤s
 ·refine rgg [(2,8)] (an5 ps pn (decide_eq_false h1) (decide_eq_true h2) Nat.add_zero) ?_
  repeat refine c_r ?_
  refine wt trivial ?_
  repeat refine c_r ?_
  refine zaJ (by simp) rfl (.inl ?_)
  unfold NetL.zones
  rw[if_neg h1,List.getElem?_eq_none (by omega)];exact h0
 refine rgg [(2,8)] (an5 ps pn (decide_eq_false h1) (decide_eq_false h2) Nat.add_zero) ?_
 repeat refine c_r ?_
 refine wf trivial ?_
 obtain⟨i0,rfl⟩:∃i:Nat,s=i:=⟨s.toNat,by omega⟩
 have hi0:i0<N.hosts.length:=by omega
 obtain⟨hcs,hhc,hhC⟩:=hgh i0 hi0
 obtain⟨h,hhe⟩:∃h,N.hosts[i0]=h:=⟨_,rfl⟩
 rw[hhe]at hhC
 obtain⟨nv,b1,b2,b3,b4,zv,rfl,_,hnm,hz⟩:=hhC.ex
 have hzl:N.zones (i0:Int)=h.zones:=by
  unfold NetL.zones
  rw[if_neg h1,Int.toNat_natCast,List.getElem?_eq_getElem hi0,hhe]
 have hzb:h.zones.length≤1000:=hN.zl h (hhe▸List.getElem_mem hi0)
 rw[hzl]at hY ⊢
 obtain⟨az,cz,rfl,hcz,hgz⟩:=hz.open
 obtain⟨xh,rfl⟩:=Option.isSome_iff_exists.1 (zan hhc)
 obtain⟨xi,hxi⟩:∃xi,adr (some xh) (i0*6)=some xi:=⟨_,rfl⟩
 rw[hxi]at hhc
 have pz:zaf W (adr (some xi) 5)=some (.slice az h.zones.length cz):=zaj (zae (hE0.trans hW) hhc) rfl
 obtain⟨x5,hx5⟩:∃x,adr (some xi) 5=some x:=⟨_,rfl⟩
 rw[hx5]at pz
 have hi0':(0:Int)≤(i0:Int):=by omega
 have hi1':(i0:Int)<(N.hosts.length:Int):=by omega
 repeat refine c_r ?_
 refine rg8 ps pn hi0' hi1' hxi hx5 pz Nat.add_zero ?_
 repeat refine c_r ?_
 obtain⟨L,hL⟩:∃L,numZ 0 h.zones=L:=⟨_,rfl⟩
 have hLl:L.length=h.zones.length:=by rw[←hL,zbR]
 rw[hL]at hY ⊢
 refine zap (fun m σ ds v=>ds=[]∧∃(i:Nat),i+m=L.length∧σ 22=vi i∧σ 21=vi h.zones.length∧σ 20= .slice az h.zones.length cz∧σ 0= .func (.yield lp) #[] #[]∧J (L.take i) v∧KeepB W0.heap.size C W v) L.length ?_ ?_
 ·exact⟨rfl,0,by omega,vr0,vq0,vq0,vq0,h0,KeepB.refl _ _ _⟩
 rintro m σ ds v ⟨rfl,i,him,s22,s21,s20,s0,hj,hKB⟩
 repeat refine c_r ?_
 refine rg2 s22 s21 ?_
 repeat refine c_r ?_
 refine wc0 ?_ ?_
 ·intro hlt
  simp only[decide_eq_true_eq]at hlt
  have hi:i<h.zones.length:=by omega
  have hi0:(0:Int)≤(i:Int):=by omega
  have hi1':(i:Int)+1=((i+1:Nat):Int):=by push_cast;rfl
  obtain⟨cs,hcs,hZ⟩:=hgz i hi
  obtain⟨ov,lv,rfl,ho,hr⟩:=hZ.ex
  obtain⟨xz,rfl⟩:=Option.isSome_iff_exists.1 (zan hcs)
  obtain⟨xi,hxi⟩:∃xi,adr (some xz) (i*2)=some xi:=⟨_,rfl⟩
  rw[hxi]at hcs
  have hEv:Ext w0 v:=zc2 (hE0.trans hW) hKB hE0.size hC
  have d:=zae hEv hcs
  have hLi:L[i]'(by omega)=(i,h.zones[i]):=by
   simp only[←hL]
   rw[zdW hi];simp
  repeat refine c_r ?_
  refine rq ?_;intro gd K hgd hK
  try simp (disch:=first|omega|assumption|rfl) only[go_sem,s22,s20,hi0,hlt,hxi,d]
  refine zbo (P:=Tryz.prog) (l:=[ov,lv]) rfl (zd9 ho.isOne hr.isOne) rfl rfl ?_
  intro v1 hE1 hs1 hB1
  try simp only[go_sem]
  refine hK _ _ ?_;clear hK hgd;clear K;try clear gd
  have d1:=zah (n:=2) hB1 rfl
  repeat refine c_r ?_
  refine rq ?_;intro gd K hgd hK
  try simp (disch:=first|omega|assumption|rfl) only[go_sem,s0,d1]
  refine Yld.mono (hY (L.take i) (L[i]'(by omega)) (L.drop (i+1)) v1 _ (by rw[←List.drop_eq_getElem_cons,List.take_append_drop]) (hJ _ _ _ hj hE1) (hKB.trans (zcN hE1 (by have:=hKB.size;omega))) ⟨ov,lv,by rw[hLi],by rw[hLi];exact ho,by rw[hLi];exact hr⟩) ?_
  rintro u x (⟨rfl,hj',hk'⟩| ⟨rfl,hjx⟩)
  ·try simp only[go_sem]
   refine hK _ _ ?_;clear hK hgd;clear K;try clear gd
   repeat refine c_r ?_
   refine wc0 ?_ ?_
   ·intro h;simp at h
   ·intro _
    repeat refine c_r ?_
    refine rg2 s22 hi1' ?_
    repeat refine c_r ?_
    exact⟨m - 1,by omega,rfl,i+1,by omega,vq0,(vq1 s21),(vq1 s20),(vq1 s0),by rw[←List.take_append_getElem (by omega)]at*;exact hj',(hKB.trans (zcN hE1 (by have:=hKB.size;omega))).trans hk'⟩
  ·try simp only[go_sem]
   refine hK _ _ ?_;clear hK hgd;clear K;try clear gd
   repeat refine c_r ?_
   refine wc0 ?_ ?_
   ·intro _
    repeat refine c_r ?_
    refine zaJ (by simp) rfl (.inr ⟨_,_,L.drop (i+1),?_,hjx⟩)
    rw[←List.drop_eq_getElem_cons,List.take_append_drop]
   ·intro h;simp at h
 ·intro hge
  simp only[decide_eq_false_iff_not]at hge
  repeat refine c_r ?_
  refine zaJ (by simp) rfl (.inl ?_)
  rwa [List.take_of_length_le (by omega)]at hj
theorem zfr{w:World}{a:Addr}:∀(i m k:Nat) {l:List Value},zaS w a i (m+k)=some l→zaS w a i m=some (l.take m)
 |i,0,k,l,h=>by simp[zaS]
 |i,m+1,k,l,h=>by
  rw[show m+1+k=(m+k)+1 from by omega]at h
  unfold zaS at h ⊢
  split at h
  ·rename_i v l' h1 h2
   cases h
   rw[h1,zfr (i+1) m k h2];rfl
  ·cases h
theorem zcE{w:World}{p:Option Addr}{m k:Nat}{l:List Value}(h:zat w p (m+k)=some l):zat w p m=some (l.take m):=by
 cases p with
 |none=>cases h
 |some a=>exact zfr 0 m k h
section
variable {P : Program} {w : World} {K : Value → World → Prop} {t : TypeId} {p v : Value} {A B : Obj}
theorem st_al1(h:∀z,Ext w z→z.heap.size=w.heap.size+1→z.heap[w.heap.size]? =some A→stK P t p v z K):stK P t p v (w.alloc A) K:=
 h _ (Ext.alloc w A) (zam w A) (World.alloc_heap_new w A)
theorem st_al2(h:∀z,Ext w z→z.heap.size=w.heap.size+2→z.heap[w.heap.size]? =some A→z.heap[w.heap.size+1]? =some B→stK P t p v z K):stK P t p v ((w.alloc A).alloc B) K:=by
 obtain⟨h1,h2,h3,h4⟩:=zc9 w A B
 exact h _ h1 h2 h3 h4
end
section
variable {P : Program} {d : Option Tmp} {ty : TypeId} {ps : String} {af : Array Edge} {g : Option (Nat × Bool)} {ρ : Operand → Value} {w : World} {K : Value → World → Prop}
theorem zku{t e:TypeId}{x:Operand}{n:Nat}{a:Addr}{m:Lck K (opW P ⟨d,.slice t x Option.none Option.none Option.none,ty,ps,af,g⟩ ρ w K)}(ht:P.underlying t=some (.array n e))(hn:n≠0)(he:(P.info? e).isSome=true)
  (hx:ρ x= .pointer (some a)) (h:K (.slice (some a) n n) w):optL (slD P (some (.array n e)) (.pointer (some a)) Option.none Option.none Option.none) w K (opW P ⟨d,.slice t x Option.none Option.none Option.none,ty,ps,af,g⟩ ρ w K) m:=by
 show opW P _ ρ w K
 obtain⟨inf,hi⟩:=Option.isSome_iff_exists.1 he
 refine zaQ (s:=Instr.sliceAt t (ρ x) Option.none Option.none Option.none) (v:= .slice (some a) n n) (w':=w) ?_ h
 have e1:=zcd (P:=P) (w:=w) (sl:=false) (n:=n) (c:=n) (lo:=Option.none) (hi:=Option.none) (mx:=Option.none) (l:=0) (h:=n) (m:=n) rfl rfl rfl (Nat.zero_le _) (Nat.le_refl _) (Nat.le_refl _) (by simp)
 have ha0:a.add 0=a:=by simp[Addr.add]
 simp[Instr.sliceAt,underlying,program,Sem.run,ht,hx,Instr.sureAddr,e1,sizeOf,typeInfo,hi,hn,ha0]
end
theorem NetAt.one{w:World}{cs:List Value}{N:NetL}(h:NetAt w cs N):cs.length=4∧∀v∈cs,one v=true:=by
 obtain⟨hv,rv,rfl,h1,h2⟩:=h.ex
 refine⟨rfl,fun v hv=>?_⟩
 simp at hv
 rcases hv with rfl|rfl|rfl|rfl
 ·exact h1.isOne
 ·exact h2.isOne
 ·rfl
 ·rfl
set_option maxHeartbeats 1000000 in
theorem zlV{w0 w:World}(hE0:Ext w0 w){cs:List Value}{N:NetL}{s:Int}{q:Nm}{qv:Value}(hN:NetAt w0 cs N)(hG:NetZ N)(hq:Row w qv (q.map vs))(mq:NmM q):
  Fn Tryz.prog 106 #[.agg cs.toArray,vi s,qv] w (fun v w'=>v= .tuple #[vi (zbN N s q).1,.bool (zbN N s q).2]∧Ext w w'):=by
 obtain⟨hv,rv,rfl,hh,hr⟩:=hN.ex
 have e1:=hh.isOne
 have e2:=hr.isOne
 obtain⟨ah,ch,hhv,_⟩:=hh.open
 obtain⟨ar,cr,hrv,_⟩:=id hr
 obtain⟨aq,cq,hqv,_⟩:=id hq
 have ql:=mq.len
 refine enter Tryz.func106 Tryz.ntmps106 rfl rfl ?_
 repeat refine c_r ?_
 rw[hhv,hrv,hqv]
 refine rg0 ?_
 rw[←hhv,←hrv,←hqv]
 repeat refine c_r ?_
 rw[zam]
 refine zaH ?_
 intro w1 hE1 hs1 hA hC
 refine rq ?_;intro gd K hgd hK
 try simp only[go_sem]
 rw[zam]
 refine st_al2 ?_
 intro w2 hE2 hs2 h8 h9
 refine zaV (P:=Tryz.prog) (t:=3) (j:=0) (u:=vi 0) (l:=[vi 0]) h8 (by simp) rfl rfl rfl ?_
 intro w3 hs3 h8' hk3
 try simp only[go_sem]
 refine zaV (P:=Tryz.prog) (t:=3) (j:=0) (u:=vi (-1)) (l:=[vi 0]) ((hk3.block _ (by omega) (by omega)).trans h9) (by simp) rfl rfl rfl ?_
 intro w4 hs4 h9' hk4
 try simp only[go_sem]
 refine hK _ _ ?_;clear hK hgd;clear K;try clear gd
 simp only[List.set_cons_zero]at h8' h9'
 obtain⟨b8,hb8⟩:∃b,w1.heap.size=b:=⟨_,rfl⟩
 rw[hb8]at h8 h8' h9 h9' hk3 hk4 hs2 ⊢
 have hE3:=Keep.to_ext (hE1.trans hE2) rfl (fun b hb=>by omega) hk3
 have hE4:=Keep.to_ext hE3 rfl (fun b hb=>by omega) hk4
 have g8:=(hk4.block _ (by omega) (by omega)).trans h8'
 have gA:=(hk4.block _ (by omega) (by omega)).trans ((hk3.block _ (by omega) (by omega)).trans (Ext.at hE2 hA))
 have gC:=(hk4.block _ (by omega) (by omega)).trans ((hk3.block _ (by omega) (by omega)).trans (Ext.at hE2 hC))
 clear h8 h8' h9 hk3 hk4 hE3 hE2 hE1 hA hC
 have d4:=zah (n:=4) (l:=[hv,rv,vi N.rw,vi N.rf]) gA rfl
 have p5:zaf w4 (some ⟨w.heap.size+1,0,Option.none⟩)=some qv:=zac gC rfl
 have hb8w:w.heap.size+2≤b8:=by omega
 repeat refine c_r ?_
 refine rc d4 (zones_ok w4) ?_
 rintro _ w5 ⟨rfl,hE5,hs5,hbn,hbs⟩
 refine re trivial ?_
 repeat refine c_r ?_
 have hE05:=hE0.trans (hE4.trans hE5)
 refine zdH (g:=197) (cap:=#[.pointer (some ⟨w4.heap.size+1,0,Option.none⟩),.pointer (some ⟨w4.heap.size,0,Option.none⟩)]) (vq0) rfl (zonesIt (C:=fun b=>b=b8∨b=b8+1) hE05 hbs hbn hh (fun b hb=>by have:=hE0.size;omega) hG) (Keep.refl _ _) (Nat.le_refl _) (fun b hb=>by omega) (fun x A args h=>by obtain⟨_,_,e,_⟩:=h;rw[e];rfl)
  (fun pre A=>Ext w A∧A.heap[b8]? =some (.cells #[vi (pre.foldl (zaU q) (0, -1)).1] 3 (0,0))∧A.heap[b8+1]? =some (.cells #[vi (pre.foldl (zaU q) (0, -1)).2] 3 (0,0))∧A.heap[w.heap.size+1]? =some (.cells #[qv] 23 (0,0)))
  (fun _ _ _=>False) ?_ (fun _ _ _ _ h _=>h.elim) ?_ ?_ ?_ (fun _ _ _ _ _ _ _ h _=>h.elim)
 ·rintro pre A B ⟨h1,h2,h3,h4⟩ hk
  have f:∀{b:Nat} {O:Obj},A.heap[b]? =some O→b<w5.heap.size→B.heap[b]? =some O:=fun h hb=>(hk.block _ (Array.getElem?_eq_some_iff.1 h).1 (by unfold two;omega)).trans h
  exact⟨Keep.to_ext h1 rfl (fun b hb=>by unfold two at hb;omega) hk,f h2 (by omega),f h3 (by omega),f h4 (by omega)⟩
 ·exact⟨hE4.trans hE5,Ext.at hE5 g8,Ext.at hE5 h9',Ext.at hE5 gC⟩
 ·rintro lp pre y suf A args hxs hszA ⟨hEA,k8,k9,k5⟩ ⟨ov,lv,rfl,ho,hr⟩
  obtain⟨B,hB⟩:∃B,pre.foldl (zaU q) (0, -1)=B:=⟨_,rfl⟩
  have hfo:(pre++ [y]).foldl (zaU q) (0, -1)=zaU q B y:=by rw[List.foldl_append,List.foldl_cons,List.foldl_nil,hB]
  rw[hB]at k8 k9
  have gz:GoodZ y.2:=by
   have hm:y∈numZ 0 (N.zones s):=hxs▸(by simp)
   obtain⟨i,hi,rfl⟩:=List.mem_iff_getElem.1 hm
   have hi':=hi
   rw[zbR]at hi'
   rw[zdW hi']
   exact(zbO hG).1 _ (List.getElem_mem hi')
  have mo:=gz.m
  have ol:=mo.len
  repeat (first|refine c_r ?_|refine rg0 ?_)
  refine rq ?_;intro gd K hgd hK
  try simp only[go_sem]
  refine zbo (P:=Tryz.prog) (l:=[ov,lv]) rfl (zd9 ho.isOne hr.isOne) rfl rfl ?_
  intro A1 hE6 hs6 hB6
  try simp only[go_sem]
  refine hK _ _ ?_;clear hK hgd;clear K;try clear gd
  refine zav ?_
  refine⟨rfl,zcN hE6 (by omega),fun Y hY=>?_⟩
  have f:∀{b:Nat} {O:Obj},A1.heap[b]? =some O→¬two w5.heap.size b→Y.heap[b]? =some O:=fun h hb=>(hY.block _ (Array.getElem?_eq_some_iff.1 h).1 hb).trans h
  have y8:=f (Ext.at hE6 k8) (by unfold two;omega)
  have y9:=f (Ext.at hE6 k9) (by unfold two;omega)
  have y5:=f (Ext.at hE6 k5) (by unfold two;omega)
  have y6:=f hB6 (by unfold two;omega)
  have hEY:Ext w Y:=Keep.to_ext (hEA.trans hE6) rfl (fun b hb=>by unfold two at hb;omega) hY
  have hsY:=hY.size
  have q8:zaf Y (some ⟨b8,0,Option.none⟩)=some (vi B.1):=zac y8 rfl
  have q9:zaf Y (some ⟨b8+1,0,Option.none⟩)=some (vi B.2):=zac y9 rfl
  have q5:zaf Y (some ⟨w.heap.size+1,0,Option.none⟩)=some qv:=zac y5 rfl
  have q6:zaf Y (some ⟨A.heap.size,0,Option.none⟩)=some ov:=zac y6 rfl
  obtain⟨ao,co,hov,_⟩:=id ho
  have holen:(y.2.o.map vs).length=y.2.o.length:=by simp
  rw[holen]at hov
  clear y5 y6
  repeat refine c_r ?_
  refine rcg [(4,21)] (an3 q5 q6 Nat.add_zero) (zcQ Y qv ov q y.2.o (hq.ext hEY) (ho.ext (hE0.trans hEY)) mq.LB mo.LB (by omega) (by omega)) ?_
  rintro _ Z ⟨rfl,hZ⟩
  have z6:=zab hZ q6
  have z9:=zab hZ q9
  rw[hov]at z6
  have hEZ:=hEY.trans hZ
  have z8':=Ext.at hZ y8
  have z9':=Ext.at hZ y9
  have z5':=Ext.at hZ (f (Ext.at hE6 k5) (by unfold two;omega))
  have hkZ:KeepB (w5.heap.size+2) (fun b=>b=b8∨b=b8+1) Y Z:=zcN hZ (by omega)
  obtain⟨u,hu⟩:∃u,zaY q y.2.o=u:=⟨_,rfl⟩
  rw[hu]
  have hstay:(u=true∧B.2<(y.2.o.length:Int))∨zaU q B y=B:=by
   by_cases h:u=true∧B.2<(y.2.o.length:Int)
   ·exact .inl h
   ·exact .inr (by unfold zaU;rw[hu,if_neg h])
  cases u with
  |false=>
   have hst:zaU q B y=B:=hstay.resolve_left (fun h=>by cases h.1)
   refine reg [(4,21)] trivial ?_
   repeat refine c_r ?_
   refine wf trivial ?_
   repeat refine c_r ?_
   refine⟨⟨hEZ,?_,?_,z5'⟩,hkZ⟩
   ·rw[hfo,hst];exact z8'
   ·rw[hfo,hst];exact z9'
  |true=>
   refine reg [(4,21)] (an3 z6 z9 Nat.add_zero) ?_
   repeat refine c_r ?_
   by_cases hgt:B.2<(y.2.o.length:Int)
   ·refine wt (decide_eq_true hgt) ?_
    have hst:zaU q B y=((y.1:Int),(y.2.o.length:Int)):=by unfold zaU;rw[hu,if_pos ⟨rfl,hgt⟩]
    repeat refine c_r ?_
    refine zaN (fun i=>i==5) [(0,true),(1,true),(2,true),(3,true),(4,false),(5,false)] ((fun i=>i=b8∨i=b8+1)) mixed (by kernel_rfl) ?_;intro gd K x hgd hx hxe hK;have hx0:=zfM hxe;clear hxe
    have z6x:=zab hx0 z6
    have hsZ:=hZ.size
    have hsx:=hx0.size
    simp (disch:=first|omega|assumption|rfl) only[go_sem,z6x,Nat.add_zero]
    refine⟨fun a ha hb=>by cases ha;dsimp only at hb;omega,?_⟩
    refine zaV (P:=Tryz.prog) (t:=3) (j:=0) (u:=vi y.1) (l:=[vi B.1]) (Ext.at hx0 z8') (by simp) rfl rfl rfl ?_
    intro Z1 hsZ1 h8' hkZ1
    refine⟨.inr (hkZ1.mono fun i _ h=> .inl h),?_⟩
    simp (disch:=first|omega|assumption|rfl) only[go_sem]
    refine zaV (P:=Tryz.prog) (t:=3) (j:=0) (u:=vi y.2.o.length) (l:=[vi B.2]) ((hkZ1.block _ (by omega) (by omega)).trans (Ext.at hx0 z9')) (by simp) rfl rfl rfl ?_
    intro Z2 hsZ2 h9' hkZ2
    refine⟨.inl rfl,?_⟩
    simp (disch:=first|omega|assumption|rfl) only[go_sem]
    refine hK _ _ ?_;clear hK hgd;clear K;try clear gd
    have z5x:=Ext.at hx0 z5'
    repeat refine c_r ?_
    refine⟨⟨Keep.to_ext (Keep.to_ext (hEZ.trans hx0) rfl (fun b hb=>by omega) hkZ1) rfl (fun b hb=>by omega) hkZ2,?_,?_,?_⟩,(hkZ.trans (zcN hx0 (by omega))).trans ((hkZ1.toB (by omega) (fun i _ h=> .inl h)).trans (hkZ2.toB (by omega) (fun i _ h=> .inr h)))⟩
    ·rw[hfo,hst];exact(hkZ2.block _ (by omega) (by omega)).trans h8'
    ·rw[hfo,hst];exact h9'
    ·exact(hkZ2.block _ (by omega) (by omega)).trans ((hkZ1.block _ (by omega) (by omega)).trans z5x)
   ·refine wf (decide_eq_false hgt) ?_
    have hst:zaU q B y=B:=hstay.resolve_left (fun h=>hgt h.2)
    repeat refine c_r ?_
    refine⟨⟨hEZ,?_,?_,z5'⟩,hkZ⟩
    ·rw[hfo,hst];exact z8'
    ·rw[hfo,hst];exact z9'
 ·intro A hszA ⟨hEA,k8,k9,_⟩ hD
  have q8:zaf A (some ⟨b8,0,Option.none⟩)=some (vi (zil q (N.zones s)).1):=zac k8 rfl
  have q9:zaf A (some ⟨b8+1,0,Option.none⟩)=some (vi (zil q (N.zones s)).2):=zac k9 rfl
  repeat refine c_r ?_
  refine zaN (fun _=>false) [(0,true),(1,true),(2,true),(3,true),(4,true)] NoS mixed (by kernel_rfl) ?_;intro gd K x hgd hx hxe hK;clear hxe
  have q8x:=zab hx q8
  have q9x:=zab hx q9
  simp (disch:=first|omega|assumption|rfl) only[go_sem,q8x,q9x]
  refine hK _ _ ?_;clear hK hgd;clear K;try clear gd
  repeat refine c_r ?_
  refine zkk (v:=vi (zbN N s q).1) (v':= .bool (zbN N s q).2) (.inr rfl) (by rfl) Tryz.ntmps106 (vr0) (vr0) (Ext.at hx hD) ?_
  intro Z hkZ hsZ
  exact⟨rfl,Keep.to_ext (hEA.trans hx) rfl (fun b hb=>by omega) hkZ⟩
theorem zlA{w0 w:World}(hE0:Ext w0 w){cs:List Value}{N:NetL}{s:Int}{q:Nm}{qv:Value}(hN:NetAt w0 cs N)(hG:NetZ N)(hq:Row w qv (q.map vs))(mq:NmM q):
  Fn Tryz.prog 41 #[.agg cs.toArray,vi s,qv] w (fun v w'=>v= .bool (zbN N s q).2∧Ext w w'):=by
 have hN0:=hN
 obtain⟨hv,rv,rfl,hh,hr⟩:=hN.ex
 obtain⟨ah,ch,hhv,_⟩:=hh.open
 obtain⟨ar,cr,hrv,_⟩:=id hr
 refine enter Tryz.func41 Tryz.ntmps41 rfl rfl ?_
 repeat refine c_r ?_
 rw[hhv,hrv]
 refine rg0 ?_
 rw[←hhv,←hrv]
 repeat refine c_r ?_
 refine zaA ?_
 intro w1 hE1 hs1 hA
 have d:=zah (n:=4) (l:=[hv,rv,vi N.rw,vi N.rf]) hA rfl
 repeat refine c_r ?_
 refine rc d (zlV (s:=s) (hE0.trans hE1) hN0 hG (hq.ext hE1) mq) ?_
 rintro _ w2 ⟨rfl,hE2⟩
 refine re trivial ?_
 repeat refine c_r ?_
 refine rg0 ?_
 repeat refine c_r ?_
 refine rt0 Tryz.ntmps41 ?_
 exact⟨rfl,hE1.trans hE2⟩
theorem zjR{w:World}{hv:Value}{N:NetL}{s k:Int}{z:zci}(hh:Rows 6 (HostC w) w hv N.hosts)(hz:(N.zones s)[k.toNat]? =some z)(hk:0≤k):
  ∃(i j:Nat) (ah:Addr) (ch:Nat) (xi x5 az:Addr) (cz nz:Nat) (xz:Addr) (ov lv:Value),s=(i:Int)∧k=(j:Int)∧i<N.hosts.length∧j<nz∧hv= .slice (some ah) N.hosts.length ch∧adr (some ah) (i*6)=some xi∧adr (some xi) 5=some x5∧zaf w (some x5)=some (.slice (some az) nz cz)∧adr (some az) (j*2)=some xz∧
   zat w (some xz) 2=some [ov,lv]∧Row w ov (z.o.map vs)∧Rows 7 (RecAt w) w lv z.recs:=by
 unfold NetL.zones at hz
 split at hz
 ·simp at hz
 rename_i hs
 cases hh':N.hosts[s.toNat]? with
 |none=>rw[hh']at hz;simp at hz
 |some h=>
  rw[hh']at hz
  dsimp only at hz
  obtain⟨hi,hhi⟩:=List.getElem?_eq_some_iff.1 hh'
  obtain⟨hj,hzj⟩:=List.getElem?_eq_some_iff.1 hz
  obtain⟨ah,ch,rfl,_,hgh⟩:=hh.open
  obtain⟨cs,hcs,hH⟩:=hgh _ hi
  rw[hhi]at hH
  obtain⟨nv,b1,b2,b3,b4,zv,rfl,_,_,hzr⟩:=hH.ex
  obtain⟨az,cz,rfl,_,hgz⟩:=hzr.open
  obtain⟨c2,hc2,hZ⟩:=hgz _ hj
  rw[hzj]at hZ
  obtain⟨ov,lv,rfl,ho,hr⟩:=hZ.ex
  obtain⟨xh,rfl⟩:=Option.isSome_iff_exists.1 (zan hcs)
  obtain⟨xz,rfl⟩:=Option.isSome_iff_exists.1 (zan hc2)
  obtain⟨xi,hxi⟩:∃xi,adr (some xh) (s.toNat*6)=some xi:=⟨_,rfl⟩
  obtain⟨x5,hx5⟩:∃x,adr (some xi) 5=some x:=⟨_,rfl⟩
  obtain⟨xk,hxk⟩:∃xi,adr (some xz) (k.toNat*2)=some xi:=⟨_,rfl⟩
  rw[hxi]at hcs
  rw[hxk]at hc2
  exact⟨s.toNat,k.toNat,xh,ch,xi,x5,xz,cz,_,xk,ov,lv,by omega,by omega,hi,hj,rfl,hxi,hx5,by rw[←hx5];exact zaj hcs rfl,hxk,hc2,ho,hr⟩
theorem ones5{a b c:Value}{k:Int}{d:Bool}(ha:one a=true)(hb:one b=true)(hc:one c=true):∀v∈ [vi k,a,b,.bool d,c],one v=true:=fun v h=>by
 simp at h
 rcases h with rfl|rfl|rfl|rfl|rfl<;>first|assumption|rfl
theorem zkE{w0 w:World}{B:Nat}{k:Int}{b:Bool}:ResB w0 B w [vi k,.slice Option.none 0 0,.slice Option.none 0 0,.bool b,.slice Option.none 0 0] ⟨k,[],[],b,[]⟩:=
 ⟨_,_,_,rfl,Rows.nil _ _ _,BlkB.nil,.inr (za7 _),Rows.nil _ _ _,BlkB.nil⟩
set_option maxHeartbeats 1000000 in
theorem Ask_ok{w0 w:World}(hE0:Ext w0 w){cs:List Value}{N:NetL}{s:Int}{q:Nm}{qv:Value}{t:Int}(hN:NetAt w0 cs N)(hG:NetZ N)(hq:Row w qv (q.map vs))(mq:NmM q):
  Fn Tryz.prog 98 #[.agg cs.toArray,vi s,qv,vi t] w (fun v w'=>Ext w w'∧∃cs,v= .agg cs.toArray∧ResB w0 w.heap.size w' cs (askN N s q t)):=by
 have hN0:=hN
 obtain⟨hv,rv,rfl,hh,hr⟩:=hN.ex
 obtain⟨ah,ch,hhv,_⟩:=hh.open
 obtain⟨ar,cr,hrv,_⟩:=id hr
 refine enter Tryz.func98 Tryz.ntmps98 rfl rfl ?_
 repeat refine c_r ?_
 rw[hhv,hrv]
 refine rg0 ?_
 rw[←hhv,←hrv]
 repeat refine c_r ?_
 rw[zam]
 refine zaH ?_
 intro w1 hE1 hs1 hA hC
 have d:=zah (n:=4) (l:=[hv,rv,vi N.rw,vi N.rf]) hA rfl
 repeat refine c_r ?_
 refine rc d (zlV (s:=s) (hE0.trans hE1) hN0 hG (hq.ext hE1) mq) ?_
 rintro _ w2 ⟨rfl,hE2⟩
 refine re trivial ?_
 have hE02:=hE0.trans (hE1.trans hE2)
 have hC2:=Ext.at hE2 hC
 have d2:=zae hE2 d
 repeat refine c_r ?_
 refine rg0 ?_
 repeat refine c_r ?_
 cases hb:(zbN N s q).2 with
 |false=>
  have hk:askN N s q t=⟨7,[],[],false,[]⟩:=by unfold askN;rw[hb];rfl
  refine wt trivial ?_
  repeat refine c_r ?_
  refine rq ?_;intro gd K hgd hK
  try simp only[go_sem]
  refine⟨by kernel_rfl,?_⟩
  rw[show bdV Tryz.prog 31 [(0,vi 7)]=some (.agg #[vi 7,.slice Option.none 0 0,.slice Option.none 0 0,.bool false,.slice Option.none 0 0]) from by kernel_rfl]
  try simp only[go_sem]
  refine zaE (P:=Tryz.prog) (t:=31) (l:=[vi 7,.slice Option.none 0 0,.slice Option.none 0 0,.bool false,.slice Option.none 0 0]) hC2 rfl (ones5 rfl rfl rfl) rfl rfl ?_
  intro z hz' hbz hkz
  try simp only[go_sem]
  refine hK _ _ ?_;clear hK hgd;clear K;try clear gd
  repeat refine c_r ?_
  refine zay (.inr rfl) Tryz.ntmps98 rfl (zaL (x:=⟨w.heap.size+1,0,Option.none⟩) (k:=5) (vq0) rfl rfl (zah hbz rfl) zau) ?_
  exact⟨Keep.to_ext (hE1.trans hE2) rfl (fun b hb=>by omega) hkz,_,rfl,by rw[hk];exact zkE⟩
 |true=>
  obtain⟨hk0,hk1⟩:=zi3 hb
  obtain⟨z,hz⟩:∃z,(N.zones s)[(zbN N s q).1.toNat]? =some z:=⟨_,List.getElem?_eq_getElem (by omega)⟩
  have hk:askN N s q t=za3 z.o z.recs q t:=by unfold askN;rw[hb,hz];rfl
  have gz:=(zbO hG).1 z (List.mem_of_getElem? hz)
  obtain⟨i,j,xh,c1,xi,x5,az,cz,nz,xz,ov,lv,rfl,hkj,hi,hj,rfl,hxi,hx5,pz,hxz,dz,ho,hl⟩:=zjR hh hz hk0
  rw[hkj]
  refine wf trivial ?_
  have p0:zaf w2 (some ⟨w.heap.size,0,Option.none⟩)=some (.slice (some xh) N.hosts.length c1):=zac (Ext.at hE2 hA) rfl
  have pz2:=zab hE02 pz
  have dz2:=zae hE02 dz
  have i0:(0:Int)≤(i:Int):=by omega
  have i1:(i:Int)<(N.hosts.length:Int):=by omega
  have j0:(0:Int)≤(j:Int):=by omega
  have j1:(j:Int)<(nz:Int):=by omega
  repeat refine c_r ?_
  refine rq ?_;intro gd K hgd hK
  try simp (disch:=first|omega|assumption|rfl) only[go_sem,p0,i0,i1,j0,j1,hxi,hx5,pz2,hxz,dz2,Nat.add_zero]
  refine Fn.mono (Zone_ok (t:=t) (gz.zn hE02 (ho.ext hE02) (hl.ext hE02)) gz.c.gd (hq.ext (hE1.trans hE2)) mq) ?_
  rintro _ w3 ⟨hE3,cs,rfl,hres⟩
  try simp only[go_sem]
  refine zaE (P:=Tryz.prog) (t:=31) (l:=cs) (Ext.at hE3 hC2) hres.cells.1 hres.cells.2 (by rw[hres.cells.1];rfl) rfl ?_
  intro z hz' hbz hkz
  try simp only[go_sem]
  refine hK _ _ ?_;clear hK hgd;clear K;try clear gd
  repeat refine c_r ?_
  refine zay (.inr rfl) Tryz.ntmps98 rfl (zaL (x:=⟨w.heap.size+1,0,Option.none⟩) (k:=5) (vq0) rfl rfl (zah hbz hres.cells.1.symm) zau) ?_
  have hs2:=hE2.size
  exact⟨Keep.to_ext (hE1.trans (hE2.trans hE3)) rfl (fun b hb=>by omega) hkz,_,rfl,by rw[hk];exact(hres.keep hkz (fun b h1 _ h2=>by omega)).mono (by omega)⟩
structure TellD(w0 w:World)(g:FuncId)(cap:List Value)(p:DatL→Bool)(R:List DatL):Prop where
 call:zaa Tryz.prog g=true
 tell:∀(A:World) (cs:List Value) (r:DatL),Ext w A→r∈R→DatAt w0 cs r→Fn Tryz.prog g (.agg cs.toArray::cap).toArray A (fun v A'=>v= .bool (p r)∧Ext A A')
theorem zlR{w0 w:World}{lv:Value}{R:List DatL}{g:FuncId}{cap:List Value}{p:DatL→Bool}(hl:Rows 5 (DatAt w0) w lv R)(ht:TellD w0 w g cap p R)(hlen:R.length≤1000000000):
  Fn Tryz.prog 242 #[lv,.func (.func g) #[] cap.toArray] w (fun v w'=>Ext w w'∧∃i:Int,v=vi i∧decide (i≥0)=R.any p):=by
 obtain⟨hcal,htell⟩:=ht
 obtain⟨aR,cR,rfl,hcR,hgR⟩:=hl.open
 refine enter Tryz.func242 Tryz.ntmps242 rfl rfl ?_
 repeat refine c_r ?_
 refine rg0 ?_
 repeat refine c_r ?_
 refine rg0 ?_
 repeat refine c_r ?_
 refine zap (fun m σ ds A=>ds=[]∧∃(i:Nat),i+m=R.length∧σ 8=vi i∧σ 7=vi R.length∧σ 0= .slice aR R.length cR∧σ 1= .func (.func g) #[] cap.toArray∧Ext w A∧∀j (h:j<R.length),j<i→p R[j]=false) R.length ?_ ?_
 ·exact⟨rfl,0,by omega,vr0,vq0,vq0,vq0,Keep.refl _ _,fun j h hj=>absurd hj (by omega)⟩
 rintro m σ ds A ⟨rfl,i,him,h8,h7,h0,h1,hEA,hlow⟩
 repeat refine c_r ?_
 refine rg2 h8 h7 ?_
 repeat refine c_r ?_
 refine wc0 ?_ ?_
 ·intro hlt
  simp only[decide_eq_true_eq]at hlt
  have hiR:i<R.length:=by omega
  have hi0:(0:Int)≤(i:Int):=by omega
  have hi1:(i:Int)<(R.length:Int):=by omega
  have hi1':(i:Int)+1=((i+1:Nat):Int):=by push_cast;rfl
  obtain⟨cr,hcr,hRr⟩:=hgR i hiR
  obtain⟨xR,rfl⟩:=Option.isSome_iff_exists.1 (zan hcr)
  have hcrA:=zae hEA hcr
  repeat refine c_r ?_
  refine rg1 h8 ?_
  repeat refine c_r ?_
  refine rq ?_;intro gd K hgd hK
  try simp (disch:=first|omega|assumption|rfl) only[go_sem,h0,h1,hi0,hi1,hcrA]
  refine zb5 hcal (Fn.mono (htell A cr R[i] hEA (List.getElem_mem hiR) hRr) ?_)
  rintro _ A1 ⟨rfl,hE1⟩
  try simp only[go_sem]
  refine hK _ _ ?_;clear hK hgd;clear K;try clear gd
  repeat refine c_r ?_
  refine wc0 ?_ ?_
  ·intro ht
   repeat (first|refine c_r ?_|refine rg0 ?_)
   refine rt0 Tryz.ntmps242 ?_
   refine⟨hEA.trans hE1,_,rfl,?_⟩
   rw[show R.any p=true from List.any_eq_true.2 ⟨_,List.getElem_mem hiR,ht⟩]
   exact decide_eq_true (by omega)
  ·intro ht
   repeat refine c_r ?_
   refine rg2 h8 hi1' ?_
   repeat refine c_r ?_
   refine⟨m - 1,by omega,rfl,i+1,by omega,vq0,(vq1 h7),(vq1 h0),(vq1 h1),hEA.trans hE1,fun j hj hji=>?_⟩
   by_cases hj2:j=i
   ·subst hj2;exact ht
   ·exact hlow j hj (by omega)
 ·intro hge
  simp only[decide_eq_false_iff_not]at hge
  repeat (first|refine c_r ?_|refine rg0 ?_)
  refine rt0 Tryz.ntmps242 ?_
  refine⟨hEA,_,rfl,?_⟩
  have:R.any p=false:=by
   rw[List.any_eq_false]
   intro x hx
   obtain⟨j,hj,rfl⟩:=List.getElem_of_mem hx
   rw[hlow j hj (by omega)];exact Bool.false_ne_true
  rw[this];rfl
theorem zeG{w0 w:World}{lv:Value}{R:List DatL}{g:FuncId}{cap:List Value}{p:DatL→Bool}(hl:Rows 5 (DatAt w0) w lv R)(ht:TellD w0 w g cap p R)(hlen:R.length≤1000000000):
  Fn Tryz.prog 225 #[lv,.func (.func g) #[] cap.toArray] w (fun v w'=>v= .bool (R.any p)∧Ext w w'):=by
 refine enter Tryz.func225 Tryz.ntmps225 rfl rfl ?_
 repeat refine c_r ?_
 refine rg0 ?_
 repeat refine c_r ?_
 refine rq ?_;intro gd K hgd hK
 try simp only[go_sem]
 refine Fn.mono (zlR hl ht hlen) ?_
 rintro _ w1 ⟨hE1,i,rfl,hi⟩
 try simp only[go_sem]
 refine hK _ _ ?_;clear hK hgd;clear K;try clear gd
 repeat refine c_r ?_
 refine rt0 Tryz.ntmps225 ?_
 exact⟨by rw[hi],hE1⟩
theorem zlW(w:World)(a b:Value)(xs ys:List UInt8)(ha:Row w a (xs.map zag))(hb:Row w b (ys.map zag)):Fn Tryz.prog 228 #[a,b] w (fun v w'=>v= .bool (decide (xs=ys))∧w'=w):=by
 obtain⟨a1,c1,rfl,_,h1⟩:=ha
 obtain⟨a2,c2,rfl,_,h2⟩:=hb
 simp only[List.length_map]at h1 h2 ⊢
 refine enter Tryz.func228 Tryz.ntmps228 rfl rfl ?_
 repeat refine c_r ?_
 refine rg0 ?_
 repeat refine c_r ?_
 refine rq ?_;intro gd K hgd hK
 try simp only[go_sem]
 refine zbf (l:=xs) rfl rfl rfl (vq0) (fun j hj=>by have:=h1 j (by simpa using hj);simpa using this) ?_
 try simp only[go_sem]
 refine zbf (l:=ys) rfl rfl rfl (vq0) (fun j hj=>by have:=h2 j (by simpa using hj);simpa using this) ?_
 try simp only[go_sem]
 refine hK _ _ ?_;clear hK hgd;clear K;try clear gd
 repeat refine c_r ?_
 refine rt0 Tryz.ntmps228 ?_
 exact⟨rfl,rfl⟩
def isA(d:DatL):Bool:=decide (d.ty=1)
def isG(addr:List UInt8)(d:DatL):Bool:=isA d && decide (d.raw=addr)
theorem IsA_ok{w0 A:World}{cs:List Value}{r:DatL}(hcs:DatAt w0 cs r):Fn Tryz.prog 224 #[.agg cs.toArray] A (fun v A'=>v= .bool (isA r)∧Ext A A'):=by
 obtain⟨nm,nu,tx,rw',rfl,h1,h2,h3,h4⟩:=hcs.ex
 refine enter Tryz.func224 Tryz.ntmps224 rfl rfl ?_
 repeat refine c_r ?_
 refine rg0 ?_
 repeat refine c_r ?_
 refine zaA ?_
 intro w1 hE1 hs1 hA
 have p0:zaf w1 (some ⟨A.heap.size,0,Option.none⟩)=some (vi r.ty):=zac hA rfl
 refine rg2 p0 Nat.add_zero ?_
 repeat refine c_r ?_
 refine rt0 Tryz.ntmps224 ?_
 exact⟨rfl,hE1⟩
theorem tell_A{w0 w:World}{ds:List DatL}:TellD w0 w 224 [] isA ds:=⟨rfl,fun A cs r _ _ hcs=>IsA_ok hcs⟩
theorem tell_G{w0 w:World}{bf bh:Nat}{nv zv:Value}{a b c d:UInt8}{ds:List DatL}(hE0:Ext w0 w)(hf:w.heap[bf]? =some (.cells #[.func (.func 224) #[] #[]] 266 (0,0)))(hh:w.heap[bh]? =some (.cells #[nv,zag a,zag b,zag c,zag d,zv] 160 (0,0))):
  TellD w0 w 227 [.pointer (some ⟨bf,0,Option.none⟩),.pointer (some ⟨bh,0,Option.none⟩)] (isG [a,b,c,d]) ds:=by
 refine⟨rfl,fun A cs r hE hr hcs=>?_⟩
 have hcs0:=hcs
 obtain⟨nm,nu,tx,rw',rfl,h1,h2,h3,h4⟩:=hcs.ex
 obtain⟨vals,⟨a1,c1,rfl,_⟩,_⟩:=id h1
 obtain⟨a2,c2,rfl,_⟩:=id h2
 obtain⟨a3,c3,rfl,_⟩:=id h3
 obtain⟨a4,c4,hrw,_⟩:=id h4
 refine enter Tryz.func227 Tryz.ntmps227 rfl rfl ?_
 repeat refine c_r ?_
 rw[hrw]
 refine rg0 ?_
 rw[←hrw]
 repeat refine c_r ?_
 refine zaA ?_
 intro w1 hE1 hs1 hA
 have hE01:=hE0.trans (hE.trans hE1)
 have pf:zaf w1 (some ⟨bf,0,Option.none⟩)=some (.func (.func 224) #[] #[]):=zac (Ext.at (hE.trans hE1) hf) rfl
 have hhA:=Ext.at (hE.trans hE1) hh
 have d5:=zah (n:=5) (l:=[vi r.ty,_,_,_,rw']) hA rfl
 have p4:zaf w1 (some ⟨A.heap.size,4,Option.none⟩)=some rw':=zac hA rfl
 have hadr:Row w1 (.slice (some ⟨bh,1,Option.none⟩) 4 4) ([a,b,c,d].map zag):=⟨some ⟨bh,1,Option.none⟩,4,rfl,Nat.le_refl _,fun j hj=>by
  have hj4:j<4:=by simpa using hj
  have:adr (some ⟨bh,1,Option.none⟩) j=some ⟨bh,1+j,Option.none⟩:=by simp[adr,Addr.add]
  rw[this]
  refine zac hhA ?_
  match j,hj4 with
  |0,_=>rfl
  |1,_=>rfl
  |2,_=>rfl
  |3,_=>rfl⟩
 repeat refine c_r ?_
 refine zaN (fun _=>false) [(0,true),(1,true),(2,false),(3,true),(4,true),(5,true),(6,true),(7,false),(8,false),(9,true),(10,true)] NoS mixed (by kernel_rfl) ?_;intro gd K x hgd hx hxe hK;clear hxe
 have hg3:∀n σ b,zas gd n σ (some (3,b))=zal (ev n σ (.tmp 8)) b:=(fun n σ b=>by rw[zad,show gd 3=some 8 from(by rw[hgd];rfl)];rfl)
 have pfx:=zab hx pf
 have d5x:=zae hx d5
 have p4x:=zab hx p4
 simp (disch:=first|omega|assumption|rfl) only[go_sem,pfx,d5x]
 refine Fn.mono (IsA_ok hcs0) ?_
 rintro _ y1 ⟨rfl,hy1⟩
 refine⟨.inr hy1,?_⟩
 have p4y:=zab hy1 p4x
 cases hai:isA r with
 |false=>
  simp (disch:=first|omega|assumption|rfl) only[go_sem,↓hg3]
  refine hK _ _ ?_;clear hK hgd;clear K;try clear gd
  repeat refine c_r ?_
  refine rt0 Tryz.ntmps227 ?_
  exact⟨by unfold isG;rw[hai];rfl,(hE1.trans hx).trans hy1⟩
 |true=>
  simp (disch:=first|omega|assumption|rfl) only[go_sem,p4y,↓hg3]
  refine zku rfl (by decide) (by kernel_rfl) (vq0) ?_
  refine⟨.inr (Keep.refl _ _),?_⟩
  simp (disch:=first|omega|assumption|rfl) only[go_sem,↓hg3]
  refine Fn.mono (zlW _ _ _ _ _ (h4.ext ((hE01.trans hx).trans hy1)) (hadr.ext (hx.trans hy1))) ?_
  rintro _ _ ⟨rfl,rfl⟩
  refine⟨.inr (Keep.refl _ _),?_⟩
  simp (disch:=first|omega|assumption|rfl) only[go_sem,↓hg3]
  refine hK _ _ ?_;clear hK hgd;clear K;try clear gd
  repeat refine c_r ?_
  refine rt0 Tryz.ntmps227 ?_
  exact⟨by unfold isG;rw[hai];rfl,(hE1.trans hx).trans hy1⟩
end Go.Proofs.YtopbbjdembnfdaaGreat
namespace Go.Proofs.YtopbbjdembnfdaaGreat.P_ci
open Go Go.Proofs.YtopbbjdembnfdaaGreat
set_option maxRecDepth 10000
theorem Clip_ok{w:World}{a:Option Addr}{n c:Nat}(hc:n≤c):Fn Tryz.prog 229 #[.slice a n c] w (fun u w'=>u= .slice a n n∧w'=w):=by
 refine enter Tryz.func229 Tryz.ntmps229 rfl rfl ?_
 repeat refine c_r ?_
 refine rg0 ?_
 repeat refine c_r ?_
 refine rq ?_;intro gd K hgd hK
 try simp only[go_sem]
 have hcl:slD Tryz.prog (some (TypeDesc.slice 3)) (Value.slice a n c) Option.none (some (Value.int IntKind.i64 ↑n)) (some (Value.int IntKind.i64 ↑n))=some (.slice a n n):=ze6 hc (by rfl)
 rw[hcl]
 try simp only[go_sem]
 refine hK _ _ ?_;clear hK hgd;clear K;try clear gd
 repeat refine c_r ?_
 refine rt0 Tryz.ntmps229 ?_
 exact⟨rfl,rfl⟩
end Go.Proofs.YtopbbjdembnfdaaGreat.P_ci
namespace Go.Proofs.YtopbbjdembnfdaaGreat
open Go
set_option maxRecDepth 10000
structure TellH(w0 w:World)(g:FuncId)(cap:List Value)(p:zd8→Bool)(R:List zd8):Prop where
 call:zaa Tryz.prog g=true
 tell:∀(A:World) (cs:List Value) (r:zd8),Ext w A→r∈R→HostC w0 cs r→Fn Tryz.prog g (.agg cs.toArray::cap).toArray A (fun v A'=>v= .bool (p r)∧Ext A A')
theorem HostC.one{w:World}{cs:List Value}{h:zd8}(hc:HostC w cs h):cs.length=6∧∀v∈cs,one v=true:=by
 obtain⟨nv,a,b,c,d,zv,rfl,_,h1,h2⟩:=hc.ex
 refine⟨rfl,fun v hv=>?_⟩
 simp at hv
 rcases hv with rfl|rfl|rfl|rfl|rfl|rfl<;>first|exact h1.isOne|exact h2.isOne|rfl
theorem tell_N{w0 w:World}{bn:Nat}{hv:Value}{host:Nm}{R:List zd8}(hE0:Ext w0 w)(hb:w.heap[bn]? =some (.cells #[hv] 23 (0,0)))(hh:Row w0 hv (host.map vs))(mh:NmM host)(hR:∀h∈R,NmM h.name):
  TellH w0 w 223 [.pointer (some ⟨bn,0,Option.none⟩)] (fun h=>decide (zaq h.name=zaq host)) R:=by
 refine⟨rfl,fun A cs r hE hr hcs=>?_⟩
 obtain⟨nv,a,b,c,d,zv,rfl,_,h1,h2⟩:=hcs.ex
 have mr:=hR r hr
 have l1:=mr.len
 have l2:=mh.len
 have e1:=h1.isOne
 have e2:=h2.isOne
 obtain⟨a1,c1,hnv,_⟩:=id h1
 obtain⟨a2,c2,hzv,_⟩:=h2.open
 refine enter Tryz.func223 Tryz.ntmps223 rfl rfl ?_
 repeat refine c_r ?_
 rw[hnv,hzv]
 refine rg0 ?_
 rw[←hnv,←hzv]
 repeat refine c_r ?_
 refine zaA ?_
 intro w1 hE1 hs1 hA
 have p0:zaf w1 (some ⟨A.heap.size,0,Option.none⟩)=some nv:=zac hA rfl
 have p1:zaf w1 (some ⟨bn,0,Option.none⟩)=some hv:=zac (Ext.at (hE.trans hE1) hb) rfl
 have hE01:=hE0.trans (hE.trans hE1)
 repeat refine c_r ?_
 refine rc (an3 p0 p1 Nat.add_zero) (zdJ w1 nv hv r.name host (h1.ext hE01) (hh.ext hE01) mr.LB mh.LB (by omega) (by omega)) ?_
 rintro _ w2 ⟨rfl,hE2⟩
 refine re trivial ?_
 repeat refine c_r ?_
 refine rt0 Tryz.ntmps223 ?_
 exact⟨rfl,hE1.trans hE2⟩
theorem tell_M{w0 w:World}{bg bf:Nat}{gv:Value}{glue:List DatL}{R:List zd8}(hE0:Ext w0 w)(hb:w.heap[bg]? =some (.cells #[gv] 28 (0,0)))(hf:w.heap[bf]? =some (.cells #[.func (.func 224) #[] #[]] 266 (0,0)))(hg:Rows 5 (DatAt w0) w gv glue)(hgl:glue.length≤1000000000):
  TellH w0 w 226 [.pointer (some ⟨bg,0,Option.none⟩),.pointer (some ⟨bf,0,Option.none⟩)] (fun h=>glue.any (isG h.addr)) R:=by
 refine⟨rfl,fun A cs r hE hr hcs=>?_⟩
 obtain⟨nv,a,b,c,d,zv,rfl,ha,h1,h2⟩:=hcs.ex
 obtain⟨a1,c1,hnv,_⟩:=id h1
 obtain⟨a2,c2,hzv,_⟩:=h2.open
 refine enter Tryz.func226 Tryz.ntmps226 rfl rfl ?_
 repeat refine c_r ?_
 rw[hnv,hzv]
 refine rg0 ?_
 rw[←hnv,←hzv]
 repeat refine c_r ?_
 refine zaA ?_
 intro w1 hE1 hs1 hA
 have p1:zaf w1 (some ⟨bg,0,Option.none⟩)=some gv:=zac (Ext.at (hE.trans hE1) hb) rfl
 have hE01:=hE0.trans (hE.trans hE1)
 repeat refine c_r ?_
 refine rc p1 (zeG (hg.ext (hE.trans hE1)) (tell_G hE01 (Ext.at (hE.trans hE1) hf) hA) hgl) ?_
 rintro _ w2 ⟨rfl,hE2⟩
 refine re trivial ?_
 repeat refine c_r ?_
 refine rt0 Tryz.ntmps226 ?_
 exact⟨by rw[ha],hE1.trans hE2⟩
def zbC(host:Nm)(glue:List DatL)(h:zd8):Bool:=if glue.any isA=true then glue.any (isG h.addr) else decide (zaq h.name=zaq host)
def zcy{α:Type}(p:α→Bool):Nat→List α→List Int
 |_,[]=>[]
 |i,h::l=>(if p h=true then [(i:Int)] else [])++zcy p (i+1) l
def zdX(N:NetL)(host:Nm)(glue:List DatL):List Int:=zcy (zbC host glue) 0 N.hosts
theorem zg8{α:Type}{p:α→Bool}:∀{l m:List α} {i:Nat},zcy p i (l++m)=zcy p i l++zcy p (i+l.length) m
 | [],m,i=>by simp[zcy]
 |h::l,m,i=>by
  simp only[List.cons_append,zcy,List.append_assoc]
  rw[zg8 (l:=l),List.length_cons,show i+1+l.length=i+(l.length+1) from by omega]
theorem zfW{α:Type}{p:α→Bool}{l:List α}{i:Nat}(hi:i<l.length):zcy p 0 (l.take (i+1))=zcy p 0 (l.take i)++if p l[i]=true then [(i:Int)] else []:=by
 rw[zao hi,zg8]
 simp only[zcy,List.append_nil,List.length_take]
 rw[show 0+min i l.length=i from by omega]
theorem zcY{α:Type}{p:α→Bool}:∀{l:List α} {i:Nat},(zcy p i l).length≤l.length
 | [],i=>by simp[zcy]
 |h::l,i=>by
  have:=zcY (p:=p) (l:=l) (i:=i+1)
  simp only[zcy,List.length_append,List.length_cons]
  split<;>simp<;>omega
set_option maxHeartbeats 1000000 in
theorem Meant_ok{w0 w:World}(hE0:Ext w0 w){cs:List Value}{N:NetL}{host:Nm}{hv gv:Value}{glue:List DatL}(hN:NetAt w0 cs N)(hG:NetZ N)(hh:Row w0 hv (host.map vs))(mh:NmM host)(hg:Rows 5 (DatAt w0) w gv glue)(hgl:glue.length≤1000000000):
  Fn Tryz.prog 195 #[.agg cs.toArray,hv,gv] w (fun v w'=>Ext w w'∧Row w' v ((zdX N host glue).map vi)∧BlkB w.heap.size w' v):=by
 obtain⟨hs,rs,rfl,hhs,hr⟩:=hN.ex
 obtain⟨ah,ch,rfl,hch,hgh⟩:=hhs.open
 obtain⟨ar,cr,hrv,_⟩:=id hr
 obtain⟨a1,c1,hnv,_⟩:=id hh
 obtain⟨a2,c2,hgv,_⟩:=hg.open
 have hl:=hG.hl
 refine enter Tryz.func195 Tryz.ntmps195 rfl rfl ?_
 repeat refine c_r ?_
 rw[hrv,hnv,hgv]
 refine rg0 ?_
 rw[←hrv,←hnv,←hgv]
 repeat refine c_r ?_
 rw[zam,zam,zam]
 refine zdt ?_
 intro w1 hE1 hs1 hA hB hC
 repeat refine c_r ?_
 refine rg0 ?_
 repeat refine c_r ?_
 refine rq ?_;intro gd K hgd hK
 try simp only[go_sem]
 refine st_al1 ?_
 intro w2 hE2 hs2 hD
 refine zaV (P:=Tryz.prog) (t:=266) (j:=0) (u:= .func (.func 224) #[] #[]) (l:=[_]) hD (by simp) rfl rfl rfl ?_
 intro w3 hs3 hD3 hk3
 try simp only[go_sem]
 refine hK _ _ ?_;clear hK hgd;clear K;try clear gd
 simp only[List.set_cons_zero]at hD3
 obtain⟨b8,hb8⟩:∃b,w1.heap.size=b:=⟨_,rfl⟩
 rw[hb8]at hD3 hk3 hs2 ⊢
 have hE3:Ext w w3:=Keep.to_ext (hE1.trans hE2) rfl (fun b hb=>by omega) hk3
 have up:∀{b:Nat} {O:Obj},w1.heap[b]? =some O→w3.heap[b]? =some O:=fun {b O} h=>(hk3.block _ (by have:=(Array.getElem?_eq_some_iff.1 h).1;omega) (by have:=(Array.getElem?_eq_some_iff.1 h).1;omega)).trans (Ext.at hE2 h)
 have p0:zaf w3 (some ⟨w.heap.size,0,Option.none⟩)=some (.slice ah N.hosts.length ch):=zac (up hA) rfl
 have pC:zaf w3 (some ⟨w.heap.size+1+1,0,Option.none⟩)=some gv:=zac (up hC) rfl
 have pD:zaf w3 (some ⟨b8,0,Option.none⟩)=some (.func (.func 224) #[] #[]):=zac hD3 rfl
 repeat refine c_r ?_
 refine rc (an2 pC pD) (zeG (hg.ext hE3) tell_A hgl) ?_
 rintro _ w4 ⟨rfl,hE4⟩
 refine re trivial ?_
 have hE34:=hE3.trans hE4
 have hE04:=hE0.trans hE34
 repeat refine c_r ?_
 refine zaC (Q:=fun e σ' ds' v'=>e= .normal∧ds'=[]∧v'=w4∧σ' 3= .pointer (some ⟨w.heap.size,0,Option.none⟩)∧∃g cap,σ' 7= .func (.func g) #[] cap.toArray∧TellH w0 w4 g cap (zbC host glue) N.hosts) ?_ ?_
 ·cases hany:glue.any isA with
  |true=>
   refine wt trivial ?_
   repeat refine c_r ?_
   refine rg0 ?_
   have hp:zbC host glue=fun h=>glue.any (isG h.addr):=funext fun h=>by unfold zbC;rw[hany];rfl
   exact⟨rfl,rfl,rfl,vq0,226,[.pointer (some ⟨w.heap.size+1+1,0,Option.none⟩),.pointer (some ⟨b8,0,Option.none⟩)],vr0,by rw[hp];exact tell_M hE04 (Ext.at hE4 (up hC)) (Ext.at hE4 hD3) (hg.ext hE34) hgl⟩
  |false=>
   refine wf trivial ?_
   repeat refine c_r ?_
   have hp:zbC host glue=fun h=>decide (zaq h.name=zaq host):=funext fun h=>by unfold zbC;rw[hany];rfl
   exact⟨rfl,rfl,rfl,vq0,223,[.pointer (some ⟨w.heap.size+1,0,Option.none⟩)],vr0,by rw[hp];exact tell_N hE04 (Ext.at hE4 (up hB)) hh mh hG.nm⟩
 rintro _ σ1 _ w5 ⟨rfl,rfl,rfl,h3,g,cap,h7,htell⟩
 have p0':=zab hE4 p0
 repeat refine c_r ?_
 refine rg0 ?_
 repeat refine c_r ?_
 refine rg3 h3 p0' Nat.add_zero ?_
 repeat refine c_r ?_
 refine zap (fun m σ ds A=>ds=[]∧∃(i:Nat) (ov:Value),i+m=N.hosts.length∧σ 20=vi i∧σ 19=vi N.hosts.length∧σ 18= .slice ah N.hosts.length ch∧σ 7= .func (.func g) #[] cap.toArray∧σ 9=ov∧Own w5.heap.size A 3 ov ((zcy (zbC host glue) 0 (N.hosts.take i)).map vi)∧Ext w5 A) N.hosts.length ?_ ?_
 ·exact⟨rfl,0,.slice Option.none 0 0,by omega,vr0,vq0,vq0,(vq1 h7),vq0,Own.nil _ _ _,Keep.refl _ _⟩
 rintro m σ ds A ⟨rfl,i,ov,him,s20,s19,s18,s7,s9,hown,hEA⟩
 repeat refine c_r ?_
 refine rg2 s20 s19 ?_
 repeat refine c_r ?_
 refine wc0 ?_ ?_
 ·intro hlt
  simp only[decide_eq_true_eq]at hlt
  have hi:i<N.hosts.length:=by omega
  have hi0:(0:Int)≤(i:Int):=by omega
  have hi1':(i:Int)+1=((i+1:Nat):Int):=by push_cast;rfl
  obtain⟨cs,hcs,hH⟩:=hgh i hi
  obtain⟨xz,rfl⟩:=Option.isSome_iff_exists.1 (zan hcs)
  obtain⟨xi,hxi⟩:∃xi,adr (some xz) (i*6)=some xi:=⟨_,rfl⟩
  rw[hxi]at hcs
  obtain⟨hc6,hc1⟩:=hH.one
  have d:=zae (hE04.trans hEA) hcs
  repeat refine c_r ?_
  refine rq ?_;intro gd K hgd hK
  try simp (disch:=first|omega|assumption|rfl) only[go_sem,s20,s18,hi0,hlt,hxi,d]
  refine zbo (P:=Tryz.prog) (l:=cs) (by rw[hc6];rfl) hc1 (by rw[hc6];rfl) rfl ?_
  intro A1 hE6 hs6 hB6
  try simp only[go_sem]
  refine hK _ _ ?_;clear hK hgd;clear K;try clear gd
  have d1:=zah (n:=6) hB6 hc6.symm
  repeat refine c_r ?_
  refine rq ?_;intro gd K hgd hK
  try simp (disch:=first|omega|assumption|rfl) only[go_sem,s7,d1]
  refine zb5 htell.call (Fn.mono (htell.tell A1 cs N.hosts[i] (hEA.trans hE6) (List.getElem_mem hi) hH) ?_)
  rintro _ A2 ⟨rfl,hE7⟩
  try simp only[go_sem]
  refine hK _ _ ?_;clear hK hgd;clear K;try clear gd
  have hE67:=hE6.trans hE7
  have hown2:=hown.ext hE67
  have hpk:=zfW (p:=zbC host glue) hi
  have hlen:=zcY (p:=zbC host glue) (l:=N.hosts.take i) (i:=0)
  have hsz:=(hEA.trans hE67).size
  repeat refine c_r ?_
  refine zaC (Q:=fun e σ' ds' v'=>e= .normal∧ds'=[]∧σ' 20=vi i∧σ' 19=vi N.hosts.length∧σ' 18= .slice (some xz) N.hosts.length ch∧σ' 7= .func (.func g) #[] cap.toArray∧∃ov',σ' 9=ov'∧Own w5.heap.size v' 3 ov' ((zcy (zbC host glue) 0 (N.hosts.take (i+1))).map vi)∧Ext w5 v') ?_ ?_
  ·cases hb:zbC host glue N.hosts[i] with
   |false=>
    rw[hb,if_neg (by decide),List.append_nil]at hpk
    refine wf trivial ?_
    repeat refine c_r ?_
    exact⟨rfl,rfl,(vq1 s20),(vq1 s19),(vq1 s18),(vq1 s7),ov,(vq1 s9),by rw[hpk];exact hown2,hEA.trans hE67⟩
   |true=>
    rw[hb,if_pos rfl]at hpk
    refine wt trivial ?_
    repeat refine c_r ?_
    refine rq ?_;intro gd K hgd hK
    try simp (disch:=first|omega|assumption|rfl) only[go_sem,s9]
    refine zgc (z:=vi 0) (by rfl) (by rfl) (by rfl) (by rfl) (by rfl) ?_
    intro A3 hE8 hs8 ho8
    try simp only[go_sem]
    refine zdU (B:=w5.heap.size) (hown2.ext hE8) ho8.row (by rfl) (by rfl) (by rfl) (by rfl) (by rfl) (by rfl) ((vr1 s9)) (vr0) (fun q hq=>by rw[List.mem_singleton.1 hq];rfl) (by simp at hlen ⊢;omega) (by decide) (by omega) ?_
    intro ov' A4 ho9 hE9 _ _
    try simp only[go_sem]
    refine hK _ _ ?_;clear hK hgd;clear K;try clear gd
    exact⟨rfl,rfl,(vq1 s20),(vq1 s19),(vq1 s18),(vq1 s7),ov',vr0,by rw[hpk,List.map_append];exact ho9,hE9 _ ((hEA.trans hE67).trans hE8) (Nat.le_refl _)⟩
  clear s20 s19 s18 s7 s9
  rintro _ σ2 _ A3 ⟨rfl,rfl,s20,s19,s18,s7,ov',s9,hown3,hE3⟩
  repeat refine c_r ?_
  refine rg2 s20 hi1' ?_
  repeat refine c_r ?_
  exact⟨m - 1,by omega,rfl,i+1,ov',by omega,vq0,(vq1 s19),(vq1 s18),(vq1 s7),(vq1 s9),hown3,hE3⟩
 ·intro hge
  simp only[decide_eq_false_iff_not]at hge
  rw[List.take_of_length_le (by omega)]at hown
  obtain⟨ao,co,hov,hco,hgo⟩:=hown.row
  rw[hov]at s9
  repeat refine c_r ?_
  refine rc s9 (P_ci.Clip_ok hco) ?_
  rintro _ A1 ⟨rfl,rfl⟩
  refine re trivial ?_
  repeat refine c_r ?_
  refine rt0 Tryz.ntmps195 ?_
  exact⟨hE34.trans hEA,⟨ao,_,rfl,Nat.le_refl _,hgo⟩,((hov▸hown.blk).same).mono hE34.size⟩
end Go.Proofs.YtopbbjdembnfdaaGreat
namespace Go.Proofs.YtopbbjdembnfdaaGreat.P_st
open Go Go.Proofs.YtopbbjdembnfdaaGreat
set_option maxRecDepth 10000
theorem Clip_ok{w:World}{a:Option Addr}{n c:Nat}(hc:n≤c):Fn Tryz.prog 153 #[.slice a n c] w (fun u w'=>u= .slice a n n∧w'=w):=by
 refine enter Tryz.func153 Tryz.ntmps153 rfl rfl ?_
 repeat refine c_r ?_
 refine rg0 ?_
 repeat refine c_r ?_
 refine rq ?_;intro gd K hgd hK
 try simp only[go_sem]
 have hcl:slD Tryz.prog (some (TypeDesc.slice 67)) (Value.slice a n c) Option.none (some (Value.int IntKind.i64 ↑n)) (some (Value.int IntKind.i64 ↑n))=some (.slice a n n):=ze6 hc (by rfl)
 rw[hcl]
 try simp only[go_sem]
 refine hK _ _ ?_;clear hK hgd;clear K;try clear gd
 repeat refine c_r ?_
 refine rt0 Tryz.ntmps153 ?_
 exact⟨rfl,rfl⟩
end Go.Proofs.YtopbbjdembnfdaaGreat.P_st
namespace Go.Proofs.YtopbbjdembnfdaaGreat
open Go
set_option maxRecDepth 10000
structure zax where
 sv:Int
 name:Nm
 rw:Int
 rf:Int
 ref:Bool
 fin:Int
def stV(nv:Value)(s:zax):List Value:=[vi s.sv,nv,vi s.rw,vi s.rf,.bool s.ref,vi s.fin]
def StN(nv:Value)(cs:List Value)(s:zax):Prop:=cs=stV nv s∧one nv=true
structure StC(w:World)(cs:List Value)(s:zax):Prop where
 ex:∃nv,cs=stV nv s∧Row w nv (s.name.map vs)
theorem zec{nv:Value}{s:zax}(h:one nv=true):∀v∈stV nv s,one v=true:=fun v hv=>by
 unfold stV at hv
 simp at hv
 rcases hv with rfl|rfl|rfl|rfl|rfl|rfl<;>first|assumption|rfl
theorem zba(nv:Value):zdb 6 (StN nv):=⟨fun h=>by rw[h.1];rfl,fun h=>by rw[h.1];exact zec h.2⟩
theorem StC.ext{w x:World}{cs:List Value}{s:zax}(h:StC w cs s)(hE:Ext w x):StC x cs s:=by
 obtain⟨nv,e,h1⟩:=h.ex
 exact⟨nv,e,h1.ext hE⟩
theorem zbp{w:World}{nv:Value}{v:Value}{l:List zax}(h:Rows 6 (StN nv) w v l)(hn:∀s∈l,Row w nv (s.name.map vs)):Rows 6 (StC w) w v l:=by
 obtain⟨L,h1,h2,h3⟩:=h
 exact⟨L,h1,h2,fun i h h'=>⟨nv,(h3 i h h').1,hn _ (List.getElem_mem h')⟩⟩
def endS(s:zax)(k:Int):List zax:=[{s with fin:=k}]
def zcn(N:NetL)(s:zax):List zax:=N.roots.map fun r=>{s with sv:=r}
theorem zcO(w:World){nv:Value}{l:List Value}(hr:Row w nv l)(s:zax)(k:Int):
  Fn Tryz.prog 99 #[.agg (stV nv s).toArray,vi k] w (fun v w'=>Ext w w'∧Rows 6 (StN nv) w' v (endS s k)):=by
 have h1:=hr.isOne
 obtain⟨an,cn,hnv,_⟩:=hr
 unfold stV
 rw[hnv]
 refine enter Tryz.func99 Tryz.ntmps99 rfl rfl ?_
 repeat refine c_r ?_
 refine rg0 ?_
 rw[←hnv]
 repeat refine c_r ?_
 refine zaA ?_
 intro w1 hE1 hs1 hA
 refine rq ?_;intro gd K hgd hK
 try simp only[go_sem]
 refine zaV (P:=Tryz.prog) (t:=3) (j:=5) (u:=vi k) (l:=stV nv s) hA (by show 5<6;decide) rfl rfl rfl ?_
 intro w2 hs2 hA2 hk2
 try simp only[go_sem]
 refine hK _ _ ?_;clear hK hgd;clear K;try clear gd
 have hE2:=Keep.to_ext hE1 rfl (fun b hb=>by omega) hk2
 have d:zat w2 (some ⟨w.heap.size,0,Option.none⟩) 6=some (stV nv {s with fin:=k}):=zah hA2 rfl
 repeat refine c_r ?_
 refine rq ?_;intro gd K hgd hK
 try simp (disch:=first|omega|assumption|rfl) only[go_sem,d]
 refine zaT (C:=StN nv) (zba nv) (l:=stV nv {s with fin:=k}) (by rfl) (by rfl) (by rfl) (by rfl) ⟨rfl,h1⟩ (by decide) ?_
 intro w3 hE3 hs3 ho3
 try simp only[go_sem]
 refine hK _ _ ?_;clear hK hgd;clear K;try clear gd
 repeat refine c_r ?_
 refine rt0 Tryz.ntmps99 ?_
 exact⟨hE2.trans hE3,ho3.rows⟩
set_option maxHeartbeats 1000000 in
theorem ziE{w0 w:World}(hE0:Ext w0 w){cs:List Value}{N:NetL}(hN:NetAt w0 cs N)(hrl:N.roots.length≤1000){nv:Value}{l:List Value}(hr:Row w nv l)(s:zax):
  Fn Tryz.prog 97 #[.agg cs.toArray,.agg (stV nv s).toArray] w (fun v w'=>Ext w w'∧Rows 6 (StN nv) w' v (zcn N s)):=by
 have h1:=hr.isOne
 obtain⟨an,cn,hnv,_⟩:=hr
 obtain⟨hv,rv,rfl,hh,hro⟩:=hN.ex
 obtain⟨ah,ch,hhv,_⟩:=hh.open
 obtain⟨ar,cr,rfl,hcr,hgr⟩:=hro
 simp only[List.length_map]at hcr hgr
 unfold stV
 rw[hnv,hhv]
 refine enter Tryz.func97 Tryz.ntmps97 rfl rfl ?_
 repeat refine c_r ?_
 refine rq ?_;intro gd K hgd hK;simp (disch:=first|omega|assumption|rfl) only[go_sem,List.length_map];refine hK _ _ ?_;clear hK hgd;clear K gd
 rw[←hnv,←hhv]
 repeat refine c_r ?_
 rw[zam]
 refine zaH ?_
 intro w1 hE1 hs1 hA hC
 have p1:zaf w1 (some ⟨w.heap.size,1,Option.none⟩)=some (.slice ar N.roots.length cr):=zac hA rfl
 repeat refine c_r ?_
 refine rg0 ?_
 repeat refine c_r ?_
 refine rg2 p1 Nat.zero_add ?_
 repeat refine c_r ?_
 obtain⟨b3,hb3⟩:∃b,w.heap.size+1=b:=⟨_,rfl⟩
 rw[hb3]at hC ⊢
 refine zap (fun m σ ds A=>ds=[]∧∃(i:Nat) (ov:Value) (s':zax),i+m=N.roots.length∧σ 11=vi i∧σ 10=vi N.roots.length∧σ 9= .slice ar N.roots.length cr∧σ 3= .pointer (some ⟨b3,0,Option.none⟩)∧σ 5=ov∧A.heap[b3]? =some (.cells (stV nv s').toArray 67 (0,0))∧(∃k,s'={s with sv:=k})∧
  Owns 6 (StN nv) w1.heap.size A 67 ov ((N.roots.take i).map fun r=>{s with sv:=r})∧Ext w A∧w1.heap.size≤A.heap.size) N.roots.length ?_ ?_
 ·exact⟨rfl,0,.slice Option.none 0 0,s,by omega,vr0,vq0,vq0,vq0,vq0,hC,⟨s.sv,rfl⟩,Owns.nil _ _ _ _ _,hE1,Nat.le_refl _⟩
 rintro m σ ds A ⟨rfl,i,ov,s',him,s11,s10,s9,s3,s5,hB,⟨k0,hs'⟩,hown,hEA,hsz⟩
 repeat refine c_r ?_
 refine rg2 s11 s10 ?_
 repeat refine c_r ?_
 refine wc0 ?_ ?_
 ·intro hlt
  simp only[decide_eq_true_eq]at hlt
  have hi:i<N.roots.length:=by omega
  have hi0:(0:Int)≤(i:Int):=by omega
  have hi1':(i:Int)+1=((i+1:Nat):Int):=by push_cast;rfl
  have hg:=zab (hE0.trans hEA) (hgr i hi)
  rw[List.getElem_map]at hg
  obtain⟨xz,rfl⟩:=Option.isSome_iff_exists.1 (zai (hgr 0 (by omega)))
  have hszA:=hEA.size
  repeat refine c_r ?_
  refine rq ?_;intro gd K hgd hK;simp (disch:=first|omega|assumption|rfl) only[go_sem,s11,s9,hi0,hlt,hg,Nat.mul_one];refine hK _ _ ?_;clear hK hgd;clear K gd
  repeat refine c_r ?_
  refine rq ?_;intro gd K hgd hK
  try simp (disch:=first|omega|assumption|rfl) only[go_sem,s3]
  refine zaV (P:=Tryz.prog) (t:=3) (j:=0) (u:=vi N.roots[i]) (l:=stV nv s') hB (by show 0<6;decide) rfl rfl rfl ?_
  intro A1 hs6 hB1 hk1
  try simp only[go_sem]
  refine hK _ _ ?_;clear hK hgd;clear K;try clear gd
  have hB1':A1.heap[b3]? =some (.cells (stV nv {s with sv:=N.roots[i]}).toArray 67 (0,0)):=by rw[hs']at hB1;exact hB1
  have hE1':=Keep.to_ext hEA rfl (fun b hb=>by omega) hk1
  have d:zat A1 (some ⟨b3,0,Option.none⟩) 6=some (stV nv {s with sv:=N.roots[i]}):=zah hB1' rfl
  have hown1:=hown.keep hk1 (fun b hb hb2=>by have:=(hown.ge hb).1;omega)
  repeat refine c_r ?_
  refine rq ?_;intro gd K hgd hK
  try simp (disch:=first|omega|assumption|rfl) only[go_sem,s5,s3,d]
  refine zaT (C:=StN nv) (zba nv) (l:=stV nv {s with sv:=N.roots[i]}) (by rfl) (by rfl) (by rfl) (by rfl) ⟨rfl,h1⟩ (by decide) ?_
  intro A2 hE7 hs7 ho7
  try simp only[go_sem]
  refine zaI (zba nv) (hown1.ext hE7) ho7.rows (by rfl) (by rfl) (by rfl) (by rfl) (by rfl) (by rfl) (by decide) ((vr1 s5)) (vr0) (by simp;omega) (by decide) (by omega) ?_
  intro ov' A3 ho8 hE8 hk8 _
  try simp only[go_sem]
  refine hK _ _ ?_;clear hK hgd;clear K;try clear gd
  have hsz3:=hk8.size
  repeat refine c_r ?_
  refine rg2 s11 hi1' ?_
  repeat refine c_r ?_
  refine⟨m - 1,by omega,rfl,i+1,ov',{s with sv:=N.roots[i]},by omega,vq0,(vq1 s10),(vq1 s9),(vq1 s3),vq0,?_,⟨_,rfl⟩,?_,hE8 w (hE1'.trans hE7) (by omega),by omega⟩
  ·refine(hk8.block _ (by omega) (fun hb=>?_)).trans (Ext.at hE7 hB1')
   have:=(hown1.ge hb).1;omega
  ·rw[zao hi,List.map_append];exact ho8
 ·intro hge
  simp only[decide_eq_false_iff_not]at hge
  have hfull:(N.roots.take i).map (fun r=>({s with sv:=r}:zax))=zcn N s:=by rw[List.take_of_length_le (by omega)];rfl
  rw[hfull]at hown
  obtain⟨ao,co,hov,hco,_⟩:=hown.rows.open
  rw[hov]at s5 hown
  repeat refine c_r ?_
  refine rc s5 (P_st.Clip_ok hco) ?_
  rintro _ A1 ⟨rfl,rfl⟩
  refine re trivial ?_
  repeat refine c_r ?_
  refine rt0 Tryz.ntmps97 ?_
  have:=hown.rows.take (m:=(zcn N s).length) (c2:=(zcn N s).length) (Nat.le_refl _) (Nat.le_refl _)
  rw[List.take_length]at this
  exact⟨hEA,this⟩
theorem zi8{w0 w:World}(hE0:Ext w0 w){cs:List Value}{N:NetL}(hN:NetAt w0 cs N)(hrl:N.roots.length≤1000){nv:Value}{q:Nm}(hq:Row w nv (q.map vs)):
  Fn Tryz.prog 36 #[.agg cs.toArray,nv] w (fun v w'=>Ext w w'∧Rows 6 (StC w') w' v (zcn N ⟨0,q,0,0,false,0⟩)):=by
 have hN0:=hN
 obtain⟨hv,rv,rfl,hh,hr⟩:=hN.ex
 obtain⟨ah,ch,hhv,_⟩:=hh.open
 obtain⟨ar,cr,hrv,_⟩:=id hr
 obtain⟨an,cn,hnv,_⟩:=id hq
 refine enter Tryz.func36 Tryz.ntmps36 rfl rfl ?_
 repeat refine c_r ?_
 rw[hhv,hrv,hnv]
 refine rg0 ?_
 rw[←hhv,←hrv,←hnv]
 repeat refine c_r ?_
 refine zaA ?_
 intro w1 hE1 hs1 hA
 have d:=zah (n:=4) (l:=[hv,rv,vi N.rw,vi N.rf]) hA rfl
 repeat refine c_r ?_
 refine rq ?_;intro gd K hgd hK
 try simp (disch:=first|omega|assumption|rfl) only[go_sem,d]
 refine⟨by kernel_rfl,?_⟩
 rw[hnv,show bdV Tryz.prog 67 [(1,.slice an (q.map vs).length cn)]=some (.agg #[vi 0,.slice an (q.map vs).length cn,vi 0,vi 0,.bool false,vi 0]) from by kernel_rfl,←hnv]
 try simp only[go_sem]
 refine Fn.mono (ziE (hE0.trans hE1) hN0 hrl (hq.ext hE1) ⟨0,q,0,0,false,0⟩) ?_
 rintro v w2 ⟨hE2,hrs⟩
 try simp only[go_sem]
 refine hK _ _ ?_;clear hK hgd;clear K;try clear gd
 repeat refine c_r ?_
 refine rt0 Tryz.ntmps36 ?_
 exact⟨hE1.trans hE2,zbp hrs (fun s hs=>by
  obtain⟨r,_,rfl⟩:=List.mem_map.1 hs
  exact hq.ext (hE1.trans hE2))⟩
end Go.Proofs.YtopbbjdembnfdaaGreat
