/-
  Texts of a proof, joined: F4, Y5, F5, E11, E12, E13, F6.
  Conditions: none.
-/
import Derived.Test.YtopbbjdembnfdaaGreatJN07
import Derived.Test.YtopbbjdembnfdaaGreatJN05
import Derived.Test.YtopbbjdembnfdaaGreatJN06
set_option linter.unusedVariables false
set_option linter.unusedSimpArgs false
set_option linter.defProp false
set_option linter.unnecessarySimpa false
namespace Go.Proofs.YtopbbjdembnfdaaGreat
open Go
set_option maxRecDepth 10000
set_option maxHeartbeats 1000000 in
theorem zb4{w0 w:World}{ov lv nv:Value}{o n:Nm}{R:List RecL}{t:Int}(hz:ZnAt w0 w ov lv o R)(hs:zdI R)(hn:Row w nv (n.map vs))(hln:LB n)(hnl:n.length≤1000000000000000):
  Fn Tryz.prog 69 #[.agg #[ov,lv],nv,vi t] w (fun v w'=>Ext w w'∧Rows 5 (DatAt w0) w' v (datC R n t)∧BlkB w.heap.size w' v):=by
 obtain⟨ao,co,hov,_⟩:=id hz.org
 obtain⟨al,cl,hlv,_⟩:=hz.recs.open
 rw[hov,hlv]
 refine enter Tryz.func69 Tryz.ntmps69 rfl rfl ?_
 repeat refine c_r ?_
 refine rg0 ?_
 repeat refine c_r ?_
 rw[←hov,←hlv]
 refine zaA ?_
 intro w1 hE1 hs1 hA
 have p1:zaf w1 (some ⟨w.heap.size,1,Option.none⟩)=some lv:=zac hA rfl
 have hz1:=hz.ext hE1
 refine rq ?_;intro gd K hgd hK
 try simp (disch:=first|omega|assumption|rfl) only[go_sem,p1,Nat.zero_add]
 refine Fn.mono (ROf_ok w0 w1 hz1.e0 hz1.recs (hn.ext hE1) hln hnl hz.ok hz.rl) ?_
 rintro _ w2 ⟨hE2,ow,ty,tl,dv,ok,rfl,how,hdv,hdb⟩
 rw[zj7 hs]at hdv
 try simp only[go_sem]
 have hB3:=zaw w2 (.cells #[.slice Option.none 0 0,vi 0,v32 0,.slice Option.none 0 0] 222 (0,0))
 have hE4:=Ext.alloc w2 (.cells #[.slice Option.none 0 0,vi 0,v32 0,.slice Option.none 0 0] 222 (0,0))
 have hs4:=zam w2 (.cells #[.slice Option.none 0 0,vi 0,v32 0,.slice Option.none 0 0] 222 (0,0))
 revert hB3 hE4 hs4
 generalize w2.alloc (.cells #[.slice Option.none 0 0,vi 0,v32 0,.slice Option.none 0 0] 222 (0,0))=w3
 intro hB3 hE4 hs4
 obtain⟨ad,cd,hdv',hcd,_⟩:=hdv.open
 refine zaE (P:=Tryz.prog) (t:=222) (l:=[ow,vi ty,v32 tl,dv]) hB3 rfl (fun v h=>by
  simp at h
  rcases h with rfl|rfl|rfl|rfl
  ·exact how
  ·rfl
  ·rfl
  ·rw[hdv'];rfl) rfl rfl ?_
 intro w4 hs5 hB5 hk5
 try simp only[go_sem]
 refine hK _ _ ?_;clear hK hgd;clear K;try clear gd
 have hE5:Ext w2 w4:=Keep.to_ext hE4 rfl (fun b hb=>by omega) hk5
 have q3:zaf w4 (some ⟨w2.heap.size,3,Option.none⟩)=some dv:=zcl hB5 rfl
 repeat refine c_r ?_
 refine rg2 q3 Nat.zero_add ?_
 repeat refine c_r ?_
 refine rt0 Tryz.ntmps69 ?_
 exact⟨(hE1.trans hE2).trans hE5,hdv.ext hE5,(hdb.ext hE5.size).mono hE1.size⟩
theorem zlI{w0 w:World}{ov lv nv:Value}{o n:Nm}{R:List RecL}{t:Int}(hz:ZnAt w0 w ov lv o R)(hn:Row w nv (n.map vs))(hln:LB n)(hnl:n.length≤1000000000000000):
  Fn Tryz.prog 68 #[.agg #[ov,lv],nv,vi t] w (fun v w'=>v= .bool (hasL R n t)∧Ext w w'):=by
 obtain⟨ao,co,hov,_⟩:=id hz.org
 obtain⟨al,cl,hlv,hcl,hgl⟩:=hz.recs.open
 rw[hov,hlv]
 refine enter Tryz.func68 Tryz.ntmps68 rfl rfl ?_
 repeat refine c_r ?_
 refine rg0 ?_
 repeat refine c_r ?_
 rw[←hov,←hlv]
 refine zaA ?_
 intro w1 hE1 hs1 hA
 have p1:zaf w1 (some ⟨w.heap.size,1,Option.none⟩)=some lv:=zac hA rfl
 rw[hlv]at p1
 have hRlen:=hz.rl
 refine rg0 ?_
 repeat refine c_r ?_
 refine zap (fun m σ ds A=>ds=[]∧∃(i:Nat),i+m=R.length∧σ 7=vi i∧σ 1=nv∧σ 2=vi t∧σ 3= .pointer (some ⟨w.heap.size,0,Option.none⟩)∧Ext w1 A∧∀j (h:j<R.length),j<i→isL n t R[j]=false) R.length ?_ ?_
 ·exact⟨rfl,0,by omega,vr0,vq0,vq0,vq0,Keep.refl _ _,fun j h hj=>absurd hj (by omega)⟩
 rintro m σ ds A ⟨rfl,i,him,h7,h1,h2,h3,hEA,hlow⟩
 have p1A:=zab hEA p1
 repeat refine c_r ?_
 refine rg4 h7 h3 p1A Nat.zero_add ?_
 repeat refine c_r ?_
 refine wc0 ?_ ?_
 ·intro hlt
  simp only[decide_eq_true_eq]at hlt
  have hi:i<R.length:=by omega
  have hi0:(0:Int)≤(i:Int):=by omega
  have hi1:(i:Int)<(R.length:Int):=by omega
  have hi1':(i:Int)+1=((i+1:Nat):Int):=by push_cast;rfl
  obtain⟨cr,hcr,hRr⟩:=hgl i hi
  obtain⟨r,hr⟩:∃r,R[i]=r:=⟨_,rfl⟩
  rw[hr]at hRr
  have hrok:zbn r:=hr▸hz.ok _ (List.getElem_mem hi)
  have hrl:=hrok.len
  obtain⟨ow,dsc,hcrE,o1,o2,g0,g1,g2,gd⟩:=hRr.cells
  obtain⟨xR,rfl⟩:=Option.isSome_iff_exists.1 (zan hcr)
  obtain⟨xi,hxi⟩:∃xi,adr (some xR) (i*7)=some xi:=⟨_,rfl⟩
  rw[hxi]at hcr
  obtain⟨xd,hxd⟩:∃xd,adr (some xi) 2=some xd:=⟨_,rfl⟩
  have hwA:=hE1.trans hEA
  have hcx:=zae hwA hcr
  have e0:=zaj hcx g0
  have e2:=zaj hcx g2
  rw[zak]at e0
  rw[hxd]at e2
  repeat refine c_r ?_
  refine zaC (Q:=fun e σ' ds' v'=>e= .normal∧ds'=[]∧σ' 7=vi i∧σ' 1=nv∧σ' 2=vi t∧σ' 3= .pointer (some ⟨w.heap.size,0,Option.none⟩)∧Ext A v'∧σ' 33= .bool (isL n t r)) ?_ ?_
  ·by_cases hty:r.dat.ty=t
   ·refine rq ?_;intro gd K hgd hK
    have hg9:∀n σ b,zas gd n σ (some (9,b))=zal (ev n σ (.tmp 24)) b:=(fun n σ b=>by rw[zad,show gd 9=some 24 from(by rw[hgd];rfl)];rfl)
    try simp (disch:=first|omega|assumption|rfl) only[go_sem,h7,h1,h2,h3,p1A,Nat.zero_add,hi0,hi1,hxi,hxd,e0,e2,zak,decide_eq_true hty,↓hg9]
    refine Fn.mono (zbK A _ _ _ _ (o1.ext (hz.e0.trans hwA)) (hn.ext hwA) hrok.lb hln (by omega) (by omega)) ?_
    rintro _ x2 ⟨rfl,hx2⟩
    try simp only[go_sem]
    refine hK _ _ ?_;clear hK hgd;clear K;try clear gd
    refine⟨rfl,rfl,(vq1 h7),(vq1 h1),(vq1 h2),(vq1 h3),hx2,?_⟩
    rw[show isL n t r=decide (zaq r.owner=zaq n) from by unfold isL;rw[decide_eq_true hty.symm,Bool.true_and];exact decide_eq_decide.2 ⟨Eq.symm,Eq.symm⟩]
    first| (simp only[go_sem];done)| (simp only[go_sem];rfl)
   ·refine rq ?_;intro gd K hgd hK
    have hg9:∀n σ b,zas gd n σ (some (9,b))=zal (ev n σ (.tmp 24)) b:=(fun n σ b=>by rw[zad,show gd 9=some 24 from(by rw[hgd];rfl)];rfl)
    try simp (disch:=first|omega|assumption|rfl) only[go_sem,h7,h1,h2,h3,p1A,Nat.zero_add,hi0,hi1,hxi,hxd,e0,e2,zak,decide_eq_false hty,↓hg9]
    refine hK _ _ ?_;clear hK hgd;clear K;try clear gd
    refine⟨rfl,rfl,(vq1 h7),(vq1 h1),(vq1 h2),(vq1 h3),Keep.refl _ _,?_⟩
    rw[show isL n t r=false from by unfold isL;rw[decide_eq_false (fun h=>hty h.symm),Bool.false_and]]
    first| (simp only[go_sem];done)| (simp only[go_sem];rfl)
  clear h7 h1 h2 h3
  rintro _ σ1 _ A1 ⟨rfl,rfl,h7,h1,h2,h3,hA1,h33⟩
  repeat refine c_r ?_
  refine zaB (t:=isL n t r) ((vq1 h33)) ?_ ?_
  ·intro ht
   repeat (first|refine c_r ?_|refine rg0 ?_)
   refine rt0 Tryz.ntmps68 ?_
   refine⟨?_,hwA.trans hA1⟩
   rw[show hasL R n t=true from List.any_eq_true.2 ⟨r,hr▸List.getElem_mem hi,ht⟩]
  ·intro ht
   repeat refine c_r ?_
   refine rg2 h7 hi1' ?_
   repeat refine c_r ?_
   refine⟨m - 1,by omega,rfl,i+1,by omega,vq0,(vq1 h1),(vq1 h2),(vq1 h3),hEA.trans hA1,fun j hj hji=>?_⟩
   by_cases hj2:j=i
   ·subst hj2;rw[hr];exact ht
   ·exact hlow j hj (by omega)
 ·intro hge
  simp only[decide_eq_false_iff_not]at hge
  repeat (first|refine c_r ?_|refine rg0 ?_)
  refine rt0 Tryz.ntmps68 ?_
  refine⟨?_,hE1.trans hEA⟩
  have:hasL R n t=false:=by
   unfold hasL
   rw[List.any_eq_false]
   intro x hx
   obtain⟨j,hj,rfl⟩:=List.getElem_of_mem hx
   rw[hlow j hj (by omega)];exact Bool.false_ne_true
  rw[this]
theorem zgf{w0 w:World}{ov lv nv:Value}{o n:Nm}{R:List RecL}(hz:ZnAt w0 w ov lv o R)(hn:Row w nv (n.map vs))(hln:LB n)(hnl:n.length≤1000000000000000):
  Fn Tryz.prog 72 #[.agg #[ov,lv],nv] w (fun v w'=>v= .bool (zaM o R n)∧Ext w w'):=by
 obtain⟨ao,co,hov,_⟩:=id hz.org
 obtain⟨al,cl,hlv,hcl,hgl⟩:=hz.recs.open
 have hol:=hz.ol
 rw[hov,hlv]
 refine enter Tryz.func72 Tryz.ntmps72 rfl rfl ?_
 repeat refine c_r ?_
 refine rg0 ?_
 repeat refine c_r ?_
 rw[←hov,←hlv]
 refine zaA ?_
 intro w1 hE1 hs1 hA
 have p0:zaf w1 (some ⟨w.heap.size,0,Option.none⟩)=some ov:=zac hA rfl
 have p1:zaf w1 (some ⟨w.heap.size,1,Option.none⟩)=some lv:=zac hA rfl
 rw[hlv]at p1
 have hRlen:=hz.rl
 refine rq ?_;intro gd K hgd hK
 try simp (disch:=first|omega|assumption|rfl) only[go_sem,p0,Nat.add_zero]
 refine Fn.mono (zcG w1 _ _ _ _ (hn.ext hE1) (hz.org.ext hE1) hln hz.lb (by omega) (by omega)) ?_
 rintro _ w2 ⟨rfl,hE2⟩
 try simp only[go_sem]
 refine hK _ _ ?_;clear hK hgd;clear K;try clear gd
 have hE12:=hE1.trans hE2
 have p02:=zab hE2 p0
 by_cases hu:zaY n o=true
 rotate_left
 ·have hu':zaY n o=false:=by simpa using hu
  rw[hu']
  repeat refine c_r ?_
  refine zaB (t:=true) (vr0) ?_ (fun h=>by cases h)
  intro _
  repeat (first|refine c_r ?_|refine rg0 ?_)
  refine rt0 Tryz.ntmps72 ?_
  refine⟨?_,hE12⟩
  unfold zaM
  rw[hu',Bool.false_and]
 rw[hu]
 repeat refine c_r ?_
 refine zaB (t:=false) (vr0) (fun h=>by cases h) ?_
 intro _
 repeat refine c_r ?_
 refine rq ?_;intro gd K hgd hK
 try simp (disch:=first|omega|assumption|rfl) only[go_sem,p02,Nat.add_zero]
 refine Fn.mono (zbK w2 _ _ _ _ (hn.ext hE12) (hz.org.ext hE12) hln hz.lb (by omega) (by omega)) ?_
 rintro _ w3 ⟨rfl,hE3⟩
 try simp only[go_sem]
 refine hK _ _ ?_;clear hK hgd;clear K;try clear gd
 have hE13:=hE12.trans hE3
 have hle:=zbZ hu
 have hsm:decide (zaq n=zaq o)=decide (n.length=o.length):=by
  refine decide_eq_decide.2 ⟨fun h=>?_,fun h=>?_⟩
  ·have:=congrArg List.length h
   unfold zaq at this
   simpa using this
  ·unfold zaY at hu
   simp only[Bool.and_eq_true,decide_eq_true_eq]at hu
   have:=hu.2
   rw[h,Nat.sub_self,List.drop_zero]at this
   exact this
 rw[hsm]
 repeat refine c_r ?_
 refine zaB (t:=decide (n.length=o.length)) (vr0) ?_ ?_
 ·intro ht
  repeat (first|refine c_r ?_|refine rg0 ?_)
  refine rt0 Tryz.ntmps72 ?_
  refine⟨?_,hE13⟩
  unfold zaM
  rw[hu,ht,Bool.true_or,Bool.true_and]
 intro hne
 have hex:zaM o R n=R.any fun r=>zaY r.owner n:=by
  unfold zaM
  rw[hu,hne,Bool.false_or,Bool.true_and]
 rw[hex]
 repeat refine c_r ?_
 refine rg0 ?_
 repeat refine c_r ?_
 refine zap (fun m σ ds A=>ds=[]∧∃(i:Nat),i+m=R.length∧σ 5=vi i∧σ 1=nv∧σ 2= .pointer (some ⟨w.heap.size,0,Option.none⟩)∧Ext w3 A∧∀j (h:j<R.length),j<i→zaY R[j].owner n=false) R.length ?_ ?_
 ·exact⟨rfl,0,by omega,vr0,vq0,vq0,Keep.refl _ _,fun j h hj=>absurd hj (by omega)⟩
 rintro m σ ds A ⟨rfl,i,him,h5,h1,h2,hEA,hlow⟩
 have p1A:=zab ((hE2.trans hE3).trans hEA) p1
 repeat refine c_r ?_
 refine rg4 h5 h2 p1A Nat.zero_add ?_
 repeat refine c_r ?_
 refine wc0 ?_ ?_
 ·intro hlt
  simp only[decide_eq_true_eq]at hlt
  have hi:i<R.length:=by omega
  have hi0:(0:Int)≤(i:Int):=by omega
  have hi1:(i:Int)<(R.length:Int):=by omega
  have hi1':(i:Int)+1=((i+1:Nat):Int):=by push_cast;rfl
  obtain⟨cr,hcr,hRr⟩:=hgl i hi
  obtain⟨r,hr⟩:∃r,R[i]=r:=⟨_,rfl⟩
  rw[hr]at hRr
  have hrok:zbn r:=hr▸hz.ok _ (List.getElem_mem hi)
  have hrl:=hrok.len
  obtain⟨ow,dsc,hcrE,o1,o2,g0,g1,g2,gd⟩:=hRr.cells
  obtain⟨xR,rfl⟩:=Option.isSome_iff_exists.1 (zan hcr)
  obtain⟨xi,hxi⟩:∃xi,adr (some xR) (i*7)=some xi:=⟨_,rfl⟩
  rw[hxi]at hcr
  have hwA:=hE13.trans hEA
  have hcx:=zae hwA hcr
  have e0:=zaj hcx g0
  rw[zak]at e0
  repeat refine c_r ?_
  refine rq ?_;intro gd K hgd hK
  try simp (disch:=first|omega|assumption|rfl) only[go_sem,h5,h1,h2,p1A,Nat.zero_add,hi0,hi1,hxi,e0,zak]
  refine Fn.mono (zcG A _ _ _ _ (o1.ext (hz.e0.trans hwA)) (hn.ext hwA) hrok.lb hln (by omega) (by omega)) ?_
  rintro _ x2 ⟨rfl,hx2⟩
  try simp only[go_sem]
  refine hK _ _ ?_;clear hK hgd;clear K;try clear gd
  repeat refine c_r ?_
  refine zaB (t:=zaY r.owner n) (vr0) ?_ ?_
  ·intro ht
   repeat (first|refine c_r ?_|refine rg0 ?_)
   refine rt0 Tryz.ntmps72 ?_
   refine⟨?_,hwA.trans hx2⟩
   rw[show (R.any fun r=>zaY r.owner n)=true from List.any_eq_true.2 ⟨r,hr▸List.getElem_mem hi,ht⟩]
  ·intro ht
   repeat refine c_r ?_
   refine rg2 h5 hi1' ?_
   repeat refine c_r ?_
   refine⟨m - 1,by omega,rfl,i+1,by omega,vq0,(vq1 h1),(vq1 h2),hEA.trans hx2,fun j hj hji=>?_⟩
   by_cases hj2:j=i
   ·subst hj2;rw[hr];exact ht
   ·exact hlow j hj (by omega)
 ·intro hge
  simp only[decide_eq_false_iff_not]at hge
  repeat (first|refine c_r ?_|refine rg0 ?_)
  refine rt0 Tryz.ntmps72 ?_
  refine⟨?_,hE13.trans hEA⟩
  have:(R.any fun r=>zaY r.owner n)=false:=by
   rw[List.any_eq_false]
   intro x hx
   obtain⟨j,hj,rfl⟩:=List.getElem_of_mem hx
   rw[hlow j hj (by omega)];exact Bool.false_ne_true
  rw[this]
theorem zdm(n:Nm)(k:Nat):zaq (n.drop k)=(zaq n).drop k:=by unfold zaq;rw[List.map_drop]
theorem zjT{x y:Nm}(h:zaY x y=true){k:Nat}(hk:k≤y.length):zaY x (y.drop k)=true:=by
 unfold zaY at h ⊢
 simp only[Bool.and_eq_true,decide_eq_true_eq]at h ⊢
 obtain⟨h1,h2⟩:=h
 refine⟨by rw[List.length_drop];omega,?_⟩
 rw[List.length_drop,show x.length - (y.length - k)=(x.length - y.length)+k from by omega,←List.drop_drop,zdm,h2,←zdm]
theorem zdf{n o:Nm}{i:Nat}(hi:i≤n.length):zaY (n.drop i) o=(decide (i≤n.length - o.length) && zaY n o):=by
 unfold zaY
 rw[Bool.eq_iff_iff]
 simp only[Bool.and_eq_true,decide_eq_true_eq,List.length_drop,List.drop_drop]
 constructor
 ·rintro⟨h1,h2⟩
  refine⟨by omega,by omega,?_⟩
  rw[show n.length - o.length=i+(n.length - i - o.length) from by omega];exact h2
 ·rintro⟨h1,h2,h3⟩
  refine⟨by omega,?_⟩
  rw[show i+(n.length - i - o.length)=n.length - o.length from by omega];exact h3
theorem zid{o n:Nm}{R:List RecL}{i j:Nat}(h:zaM o R (n.drop i)=true)(hij:i≤j)(hj:j≤n.length - o.length)(hjn:j≤n.length):zaM o R (n.drop j)=true:=by
 unfold zaM at h ⊢
 simp only[Bool.and_eq_true,Bool.or_eq_true,decide_eq_true_eq]at h ⊢
 obtain⟨h1,h2⟩:=h
 rw[zdf (by omega)]at h1 ⊢
 simp only[Bool.and_eq_true,decide_eq_true_eq]at h1 ⊢
 refine⟨⟨hj,h1.2⟩,?_⟩
 rcases h2 with h2|h2
 ·left
  rw[List.length_drop]at h2 ⊢
  have:=zbZ h1.2
  omega
 ·right
  obtain⟨r,hr,h3⟩:=List.any_eq_true.1 h2
  refine List.any_eq_true.2 ⟨r,hr,?_⟩
  have:=zjT h3 (k:=j - i) (by rw[List.length_drop];omega)
  rw[List.drop_drop,show i+(j - i)=j from by omega]at this
  exact this
theorem zfR{n:Nm}{p:Nm→Bool}{i:Nat}:∀{K:Nat},i≤K→(∀j,i≤j→j≤K→p (n.drop j)=true)→(∀j,j<i→p (n.drop j)=false)→((zbl n K).takeWhile p).getLast? =some (n.drop i)
 |0,hi,h1,h2=>by
  have:i=0:=by omega
  subst this
  have:=h1 0 (Nat.le_refl _) (Nat.le_refl _)
  unfold zbl
  rw[List.takeWhile_cons_of_pos this];rfl
 |K+1,hi,h1,h2=>by
  unfold zbl
  rw[List.takeWhile_cons_of_pos (h1 _ hi (Nat.le_refl _))]
  by_cases hK:i=K+1
  ·subst hK
   have h3:=h2 K (by omega)
   have:(zbl n K).takeWhile p=[]:=by
    cases K with
    |zero=>unfold zbl;rw[List.takeWhile_cons_of_neg (by rw[h3];exact Bool.false_ne_true)]
    |succ K=>unfold zbl;rw[List.takeWhile_cons_of_neg (by rw[h3];exact Bool.false_ne_true)]
   rw[this];rfl
  ·have h3:=zfR (K:=K) (by omega) (fun j a b=>h1 j a (by omega)) h2
   rw[List.getLast?_cons,h3];rfl
theorem encl_at{o n:Nm}{R:List RecL}{i:Nat}(hi:i≤n.length)(h:zaM o R (n.drop i)=true)(hlow:∀j,j<i→zaM o R (n.drop j)=false):zbM o R n=n.drop i:=by
 have h1:zaY (n.drop i) o=true:=by
  unfold zaM at h
  simp only[Bool.and_eq_true]at h
  exact h.1
 rw[zdf hi]at h1
 simp only[Bool.and_eq_true,decide_eq_true_eq]at h1
 unfold zbM za8
 rw[if_pos h1.2,if_pos (zbZ h1.2),zfR h1.1 (fun j a b=>zid h a b (by omega)) hlow];rfl
theorem encl_no{o n:Nm}{R:List RecL}(hlow:∀j,j≤n.length→zaM o R (n.drop j)=false):zbM o R n=[]:=by
 by_cases hu:zaY n o=true
 ·exfalso
  have hl:=zbZ hu
  have h:=hlow (n.length - o.length) (by omega)
  unfold zaM at h
  rw[zdf (by omega),hu]at h
  simp at h
  omega
 ·unfold zbM
  rw[if_neg hu]
theorem zlJ(w:World)(b:Value)(l:List UInt8)(xs:Nm)(hb:Row w b (xs.map vs))(hxl:xs.length≤1000000000000):
  Fn Tryz.prog 142 #[vs l,b] w (fun v w'=>RowB w.heap.size w' v ((l::xs).map vs)∧Ext w w'):=by
 have hb0:=hb
 obtain⟨b,cb,rfl,hcb,hlb⟩:=hb
 simp only[List.length_map]at*
 refine enter Tryz.func142 Tryz.ntmps142 rfl rfl ?_
 repeat refine c_r ?_
 refine rg0 ?_
 repeat refine c_r ?_
 refine rq ?_;intro gd K hgd hK
 try simp only[go_sem]
 have hbs:bsC Tryz.prog 22 1 [(0,vs l)]=some (9,#[vs l]):=zik (z:=vs []) rfl rfl rfl rfl rfl
 unfold bsL bsK
 rw[hbs]
 simp only[]
 have hown:(w.alloc (.cells #[vs l] 9)).ownsRow w.heap.size 9 1 (.slice (some ⟨w.heap.size,0,Option.none⟩) 1 1) 1 [vs l]:=
  ⟨rfl,.inr ⟨w.heap.size,1,#[vs l],rfl,Nat.le_refl _,zaw w _,Nat.le_refl _,by decide,rfl,rfl⟩⟩
 try simp only[go_sem]
 refine zdT (P:=Tryz.prog) (e:=9) (size:=1) (bytes:=16) (m:=xs.length) rfl rfl rfl rfl rfl rfl (by decide) (vq0) (by simp only[go_sem];rfl) hown (by simpa using Src1.of_row (hb0.ext (Ext.alloc w _))) ?_ ?_ ?_ (by simp) ?_
 ·intro q hq
  obtain⟨s,_,rfl⟩:=List.mem_map.1 hq
  rfl
 ·simp[maxLen];omega
 ·omega
 intro v' w' hown' hgr _
 try simp only[go_sem]
 refine hK _ _ ?_;clear hK hgd;clear K;try clear gd
 repeat refine c_r ?_
 refine rt0 Tryz.ntmps142 ?_
 exact⟨by simpa using RowB.of_owns hown',Keep.to_ext (Ext.alloc w _) rfl (fun b hb=>by simp[Value.ownBlock]at hb;omega) hgr⟩
set_option maxHeartbeats 1000000 in
theorem zhL{w0 w:World}{ov lv nv:Value}{o n:Nm}{R:List RecL}(hz:ZnAt w0 w ov lv o R)(hn:Row w nv (n.map vs))(hln:LB n)(hnl:n.length≤1000000000000):
  Fn Tryz.prog 143 #[.agg #[ov,lv],nv] w (fun v w'=>Row w' v ((zbM o R n).map vs)∧Ext w w'):=by
 obtain⟨ao,co,hov,_⟩:=id hz.org
 obtain⟨al,cl,hlv,_⟩:=hz.recs.open
 obtain⟨an,cn,hnv,hcn,hgn⟩:=id hn
 simp only[List.length_map]at hnv hcn hgn
 rw[hov,hlv,hnv]
 refine enter Tryz.func143 Tryz.ntmps143 rfl rfl ?_
 repeat refine c_r ?_
 refine rg0 ?_
 repeat refine c_r ?_
 rw[←hov,←hlv]
 refine zaA ?_
 intro w1 hE1 hs1 hA
 have d2:=zah (n:=2) (l:=[ov,lv]) hA rfl
 refine rg0 ?_
 repeat refine c_r ?_
 refine zap (fun m σ ds A=>ds=[]∧∃(i:Nat),i+m=n.length+1∧σ 5=vi i∧σ 1= .slice an n.length cn∧σ 2= .pointer (some ⟨w.heap.size,0,Option.none⟩)∧Ext w1 A∧∀j,j<i→zaM o R (n.drop j)=false) (n.length+1) ?_ ?_
 ·exact⟨rfl,0,by omega,vr0,vq0,vq0,Keep.refl _ _,fun j hj=>absurd hj (by omega)⟩
 rintro m σ ds A ⟨rfl,i,him,h5,h1,h2,hEA,hlow⟩
 have d2A:=zae hEA d2
 have hwA:=hE1.trans hEA
 repeat refine c_r ?_
 refine rg2 h5 h1 ?_
 repeat refine c_r ?_
 refine wc0 ?_ ?_
 ·intro hlt
  simp only[decide_eq_true_eq]at hlt
  have hi:i≤n.length:=by omega
  have hi0:(0:Int)≤(i:Int):=by omega
  have hk1:(i:Int)≤(n.length:Int):=by omega
  have hi1':(i:Int)+1=((i+1:Nat):Int):=by push_cast;rfl
  have hrow:Row w (.slice (if cn=i then an else adr an i) (n.length - i) (cn - i)) ((n.drop i).map vs):=by
   have:=Row.tail (l:=n.map vs) (by simp) hcn (by simpa using hgn) (lo:=i) (by simpa using hi)
   rw[←List.map_drop]at this
   simpa using this
  repeat refine c_r ?_
  refine zaC (Q:=fun e σ' ds' v'=>e= .normal∧ds'=[]∧σ' 5=vi i∧σ' 1= .slice an n.length cn∧σ' 2= .pointer (some ⟨w.heap.size,0,Option.none⟩)∧Ext A v'∧σ' 16= .bool (zaM o R (n.drop i))) ?_ ?_
  ·refine zaN (fun _=>false) [(0,true),(1,true),(2,true),(3,true),(4,false)] NoS mixed (by kernel_rfl) ?_;intro gd K x hgd hx hxe hK;clear hxe
   have d2x:=zae hx d2A
   simp (disch:=first|omega|assumption|rfl) only[go_sem,h5,h1,h2,hi0,hk1,d2x]
   refine Fn.mono (zgf (hz.ext (hwA.trans hx)) (hrow.ext (hwA.trans hx)) (hln.drop i) (by rw[List.length_drop];omega)) ?_
   rintro _ x2 ⟨rfl,hx2⟩
   refine⟨.inr hx2,?_⟩
   simp (disch:=first|omega|assumption|rfl) only[go_sem]
   refine hK _ _ ?_;clear hK hgd;clear K;try clear gd
   exact⟨rfl,rfl,(vq1 h5),(vq1 h1),(vq1 h2),hx.trans hx2,vr0⟩
  clear h5 h1 h2
  rintro _ σ1 _ A1 ⟨rfl,rfl,h5,h1,h2,hA1,h16⟩
  repeat refine c_r ?_
  refine zaB (t:=zaM o R (n.drop i)) ((vq1 h16)) ?_ ?_
  ·intro ht
   repeat refine c_r ?_
   refine rg4 h5 h1 hi0 hk1 ?_
   repeat refine c_r ?_
   refine rt0 Tryz.ntmps143 ?_
   rw[encl_at hi ht hlow]
   exact⟨hrow.ext (hwA.trans hA1),hwA.trans hA1⟩
  ·intro ht
   repeat refine c_r ?_
   refine rg2 h5 hi1' ?_
   repeat refine c_r ?_
   refine⟨m - 1,by omega,rfl,i+1,by omega,vq0,(vq1 h1),(vq1 h2),hEA.trans hA1,fun j hji=>?_⟩
   by_cases hj2:j=i
   ·subst hj2;exact ht
   ·exact hlow j (by omega)
 ·intro hge
  simp only[decide_eq_false_iff_not]at hge
  repeat (first|refine c_r ?_|refine rg0 ?_)
  refine rt0 Tryz.ntmps143 ?_
  rw[encl_no (fun j hj=>hlow j (by omega))]
  exact⟨⟨Option.none,0,rfl,Nat.le_refl _,fun j h=>absurd h (by simp)⟩,hwA⟩
set_option maxHeartbeats 1000000 in
theorem zjO{w0 w:World}{ov lv nv:Value}{o n:Nm}{R:List RecL}(hz:ZnAt w0 w ov lv o R)(hn:Row w nv (n.map vs))(hln:LB n)(hnl:n.length≤1000000000):
  Fn Tryz.prog 74 #[.agg #[ov,lv],nv] w (fun v w'=>Ext w w'∧∃sv,v= .tuple #[sv,.bool (zaZ o R n).isSome]∧Row w' sv (((zaZ o R n).getD []).map vs)):=by
 obtain⟨ao,co,hov,_⟩:=id hz.org
 obtain⟨al,cl,hlv,hcl,hgl⟩:=hz.recs.open
 have hRlen:=hz.rl
 rw[hov,hlv]
 refine enter Tryz.func74 Tryz.ntmps74 rfl rfl ?_
 repeat refine c_r ?_
 refine rg0 ?_
 repeat refine c_r ?_
 rw[←hov,←hlv]
 refine zaA ?_
 intro w1 hE1 hs1 hA
 have d2:=zah (n:=2) (l:=[ov,lv]) hA rfl
 have p1:zaf w1 (some ⟨w.heap.size,1,Option.none⟩)=some lv:=zac hA rfl
 rw[hlv]at p1
 have hz1:=hz.ext hE1
 refine rq ?_;intro gd K hgd hK
 try simp (disch:=first|omega|assumption|rfl) only[go_sem,d2]
 refine Fn.mono (zhL hz1 (hn.ext hE1) hln (by omega)) ?_
 rintro ev w2 ⟨hev,hE2⟩
 try simp only[go_sem]
 refine Fn.mono (zlJ w2 ev starL (zbM o R n) hev (by have:=zeS (o:=o) (R:=R) (n:=n);omega)) ?_
 rintro sv w3 ⟨hsv,hE3⟩
 try simp only[go_sem]
 refine hK _ _ ?_;clear hK hgd;clear K;try clear gd
 have hsr:Row w3 sv ((zbq o R n).map vs):=hsv.1
 have hslb:LB (zbq o R n):=fun l hl=>by
  rcases List.mem_cons.1 hl with rfl|hl
  ·decide
  ·exact zld hln l hl
 have hsl:(zbq o R n).length≤1000000001:=by
  have:=zeS (o:=o) (R:=R) (n:=n)
  unfold zbq
  rw[List.length_cons];omega
 have hE13:=hE1.trans (hE2.trans hE3)
 repeat refine c_r ?_
 refine rg0 ?_
 repeat refine c_r ?_
 refine zap (fun m σ ds A=>ds=[]∧∃(i:Nat),i+m=R.length∧σ 7=vi i∧σ 6=sv∧σ 2= .pointer (some ⟨w.heap.size,0,Option.none⟩)∧Ext w3 A∧∀j (h:j<R.length),j<i→decide (zaq R[j].owner=zaq (zbq o R n))=false) R.length ?_ ?_
 ·exact⟨rfl,0,by omega,vr0,vq0,vq0,Keep.refl _ _,fun j h hj=>absurd hj (by omega)⟩
 rintro m σ ds A ⟨rfl,i,him,h7,h6,h2,hEA,hlow⟩
 have p1A:=zab ((hE2.trans hE3).trans hEA) p1
 repeat refine c_r ?_
 refine rg4 h7 h2 p1A Nat.zero_add ?_
 repeat refine c_r ?_
 refine wc0 ?_ ?_
 ·intro hlt
  simp only[decide_eq_true_eq]at hlt
  have hi:i<R.length:=by omega
  have hi0:(0:Int)≤(i:Int):=by omega
  have hi1:(i:Int)<(R.length:Int):=by omega
  have hi1':(i:Int)+1=((i+1:Nat):Int):=by push_cast;rfl
  obtain⟨cr,hcr,hRr⟩:=hgl i hi
  obtain⟨r,hr⟩:∃r,R[i]=r:=⟨_,rfl⟩
  rw[hr]at hRr
  have hrok:zbn r:=hr▸hz.ok _ (List.getElem_mem hi)
  have hrl:=hrok.len
  obtain⟨ow,dsc,hcrE,o1,o2,g0,g1,g2,gd⟩:=hRr.cells
  obtain⟨xR,rfl⟩:=Option.isSome_iff_exists.1 (zan hcr)
  obtain⟨xi,hxi⟩:∃xi,adr (some xR) (i*7)=some xi:=⟨_,rfl⟩
  rw[hxi]at hcr
  have hwA:=hE13.trans hEA
  have hcx:=zae hwA hcr
  have e0:=zaj hcx g0
  rw[zak]at e0
  repeat refine c_r ?_
  refine rq ?_;intro gd K hgd hK
  try simp (disch:=first|omega|assumption|rfl) only[go_sem,h7,h6,h2,p1A,Nat.zero_add,hi0,hi1,hxi,e0,zak]
  refine Fn.mono (zbK A _ _ _ _ (o1.ext (hz.e0.trans hwA)) (hsr.ext hEA) hrok.lb hslb (by omega) (by omega)) ?_
  rintro _ x2 ⟨rfl,hx2⟩
  try simp only[go_sem]
  refine hK _ _ ?_;clear hK hgd;clear K;try clear gd
  repeat refine c_r ?_
  refine zaB (t:=decide (zaq r.owner=zaq (zbq o R n))) (vr0) ?_ ?_
  ·intro ht
   repeat refine c_r ?_
   refine rg1 h6 ?_
   repeat refine c_r ?_
   have hso:zaZ o R n=some (zbq o R n):=by
    unfold zaZ
    rw[if_pos]
    exact List.any_eq_true.2 ⟨r,hr▸List.getElem_mem hi,ht⟩
   refine zay (.inr rfl) Tryz.ntmps74 rfl (zar (v:=sv) (vr0) (zar (v:= .bool true) (vr0) zau)) ?_
   exact⟨hwA.trans hx2,sv,by rw[hso];rfl,by rw[hso];exact hsr.ext (hEA.trans hx2)⟩
  ·intro ht
   repeat refine c_r ?_
   refine rg2 h7 hi1' ?_
   repeat refine c_r ?_
   refine⟨m - 1,by omega,rfl,i+1,by omega,vq0,(vq1 h6),(vq1 h2),hEA.trans hx2,fun j hj hji=>?_⟩
   by_cases hj2:j=i
   ·subst hj2;rw[hr];exact ht
   ·exact hlow j hj (by omega)
 ·intro hge
  simp only[decide_eq_false_iff_not]at hge
  repeat refine c_r ?_
  refine rg0 ?_
  repeat refine c_r ?_
  have hso:zaZ o R n=Option.none:=by
   unfold zaZ
   rw[if_neg]
   unfold ownsL
   rw[List.any_eq_true]
   rintro⟨x,hx,h⟩
   obtain⟨j,hj,rfl⟩:=List.getElem_of_mem hx
   rw[hlow j hj (by omega)]at h
   cases h
  refine zay (.inr rfl) Tryz.ntmps74 rfl (zar (v:= .slice Option.none 0 0) (vr0) (zar (v:= .bool false) (vr0) zau)) ?_
  exact⟨hE13.trans hEA,_,by rw[hso];rfl,by rw[hso];exact⟨Option.none,0,rfl,Nat.le_refl _,fun j h=>absurd h (by simp)⟩⟩
set_option maxHeartbeats 1000000 in
theorem RGlue_ok{w0 w:World}{ov lv hv:Value}{o h:Nm}{R:List RecL}(hz:ZnAt w0 w ov lv o R)(hs:zdI R)(hn:Row w hv (h.map vs))(hln:LB h)(hnl:h.length≤1000000000000):
  Fn Tryz.prog 141 #[.agg #[ov,lv],hv] w (fun v w'=>Ext w w'∧Rows 5 (DatAt w0) w' v (zbd R h)∧BlkB w.heap.size w' v):=by
 obtain⟨ao,co,hov,_⟩:=id hz.org
 obtain⟨al,cl,hlv,_⟩:=hz.recs.open
 have hRlen:=hz.rl
 have l1:=zbe (R:=R) (n:=h) (t:=1)
 have l28:=zbe (R:=R) (n:=h) (t:=28)
 rw[hov,hlv]
 refine enter Tryz.func141 Tryz.ntmps141 rfl rfl ?_
 repeat refine c_r ?_
 refine rg0 ?_
 repeat refine c_r ?_
 rw[←hov,←hlv]
 refine zaA ?_
 intro w1 hE1 hs1 hA
 have d2:=zah (n:=2) (l:=[ov,lv]) hA rfl
 have hln1:([]:List DatL).length+(datC R h 1).length≤100000000000:=by simp;omega
 have hln2:([]++datC R h 1).length+(datC R h 28).length≤100000000000:=by simp;omega
 refine zfB (fun _=>false) (.run [(1,true),(2,true),(5,true),(6,true)] (.fork 5 [0,3] (fun i=>if i=0 then(.run [(3,false),(4,false),(7,false),(8,false),(9,true)] .fin) else(.run [(0,false),(4,false),(7,false),(8,false),(9,true)] .fin)))) (zbB w1.heap.size) mixed (by kernel_rfl) ?_;intro gd K x hgd hx hxe hK;have hx0:=zfM hxe;clear hxe
 have d2x:=zae hx0 d2
 have hxs:=hx.size
 simp (disch:=first|omega|assumption|rfl) only[go_sem,d2x]
 refine⟨zco (by omega),zco (by omega),?_⟩
 have fin:∀(B:Nat) (v7:Value) (w7:World),w.heap.size≤B→Ext w1 w7→Owns 5 (DatAt w0) B w7 132 v7 (([]++datC R h 1)++datC R h 28)→Ext w w7∧Rows 5 (DatAt w0) w7 v7 (zbd R h)∧BlkB w.heap.size w7 v7:=fun B v7 w7 hB hE ho=>⟨hE1.trans hE,ho.rows,ho.blk.mono hB⟩
 have hn1:=hn.ext (hE1.trans hx0)
 have hzx:=hz.ext (hE1.trans hx0)
 simp only[zbg,zbv];refine⟨?_,?_⟩
 ·simp (disch:=first|omega|assumption|rfl) only[go_sem]
  refine zep (k:=5) (C:=DatAt w0) rfl rfl rfl rfl ?_
  intro w3 hE3 hs3 ho3
  refine⟨.inr hE3.keep,?_⟩
  simp (disch:=first|omega|assumption|rfl) only[go_sem]
  refine Fn.mono (zb4 (hzx.ext hE3) hs (hn1.ext hE3) hln (by omega)) ?_
  rintro d1 w4 ⟨hE4,hd1,hb1⟩
  refine⟨.inr hE4.keep,?_⟩
  have hs4:=hE4.size
  simp (disch:=first|omega|assumption|rfl) only[go_sem]
  refine zaI (zaR w0) (ho3.ext hE4) hd1 rfl rfl rfl rfl rfl rfl (by decide) (vr0) (vr0) hln1 (by decide) (by omega) ?_
  intro v5 w5 ho5 hE5' hk5 _
  refine⟨.inr (hk5.mono fun b _ hb=>by have:=(ho3.ge hb).1;show _≤_;omega),?_⟩
  have hs5:=hk5.size
  have hE15:Ext w1 w5:=hE5' w1 ((hx0.trans hE3).trans hE4) (by omega)
  simp (disch:=first|omega|assumption|rfl) only[go_sem]
  refine Fn.mono (zb4 (hz.ext (hE1.trans hE15)) hs (hn.ext (hE1.trans hE15)) hln (by omega)) ?_
  rintro d2 w6 ⟨hE6,hd2,hb2⟩
  refine⟨.inr hE6.keep,?_⟩
  have hs6:=hE6.size
  simp (disch:=first|omega|assumption|rfl) only[go_sem]
  refine zaI (zaR w0) (ho5.ext hE6) hd2 rfl rfl rfl rfl rfl rfl (by decide) (vr0) (vr0) hln2 (by decide) (by omega) ?_
  intro v7 w7 ho7 hE7' hk7 _
  refine⟨.inr (hk7.mono fun b _ hb=>by have:=(ho5.ge hb).1;show _≤_;omega),?_⟩
  simp (disch:=first|omega|assumption|rfl) only[go_sem]
  refine hK _ _ ?_;clear hK hgd;clear K;try clear gd
  repeat refine c_r ?_
  refine rt0 Tryz.ntmps141 ?_
  exact fin _ _ _ (by omega) (hE7' w1 (hE15.trans hE6) (by omega)) ho7
 ·simp (disch:=first|omega|assumption|rfl) only[go_sem]
  refine Fn.mono (zb4 hzx hs hn1 hln (by omega)) ?_
  rintro d1 w4 ⟨hE4,hd1,hb1⟩
  refine⟨.inr hE4.keep,?_⟩
  have hs4:=hE4.size
  simp (disch:=first|omega|assumption|rfl) only[go_sem]
  refine zep (k:=5) (C:=DatAt w0) rfl rfl rfl rfl ?_
  intro w3 hE3 hs3 ho3
  refine⟨.inr hE3.keep,?_⟩
  simp (disch:=first|omega|assumption|rfl) only[go_sem]
  refine zaI (zaR w0) ho3 (hd1.ext hE3) rfl rfl rfl rfl rfl rfl (by decide) (vr0) (vr0) hln1 (by decide) (by omega) ?_
  intro v5 w5 ho5 hE5' hk5 _
  refine⟨.inr (hk5.mono fun b _ hb=>by have:=(ho3.ge hb).1;show _≤_;omega),?_⟩
  have hs5:=hk5.size
  have hE15:Ext w1 w5:=hE5' w1 ((hx0.trans hE4).trans hE3) (by omega)
  simp (disch:=first|omega|assumption|rfl) only[go_sem]
  refine Fn.mono (zb4 (hz.ext (hE1.trans hE15)) hs (hn.ext (hE1.trans hE15)) hln (by omega)) ?_
  rintro d2 w6 ⟨hE6,hd2,hb2⟩
  refine⟨.inr hE6.keep,?_⟩
  have hs6:=hE6.size
  simp (disch:=first|omega|assumption|rfl) only[go_sem]
  refine zaI (zaR w0) (ho5.ext hE6) hd2 rfl rfl rfl rfl rfl rfl (by decide) (vr0) (vr0) hln2 (by decide) (by omega) ?_
  intro v7 w7 ho7 hE7' hk7 _
  refine⟨.inr (hk7.mono fun b _ hb=>by have:=(ho5.ge hb).1;show _≤_;omega),?_⟩
  simp (disch:=first|omega|assumption|rfl) only[go_sem]
  refine hK _ _ ?_;clear hK hgd;clear K;try clear gd
  repeat refine c_r ?_
  refine rt0 Tryz.ntmps141 ?_
  exact fin _ _ _ (by omega) (hE7' w1 (hE15.trans hE6) (by omega)) ho7
def zbx(R:List RecL)(hs:List Nm):List (Nm×List DatL):=hs.filterMap fun h=>if zbd R h=[] then Option.none else some (h,zbd R h)
def zeu(R:List RecL)(cut:Nm):ResL:=⟨4,datC R cut 2,cut,false,zbx R (zbk 2 (datC R cut 2))⟩
theorem zf0(R:List RecL)(a:List Nm)(h:Nm):zbx R (a++ [h])=zbx R a++(if zbd R h=[] then [] else [(h,zbd R h)]):=by
 unfold zbx
 rw[List.filterMap_append]
 congr 1
 by_cases hg:zbd R h=[]
 ·simp[hg]
 ·simp[hg]
abbrev GlX:=(Nm×List DatL)×(Value×Value)
def glC(cs:List Value)(x:GlX):Prop:=cs=[x.2.1,x.2.2]∧one x.2.1=true∧one x.2.2=true
theorem zeQ:zdb 2 glC:=by
 refine⟨fun h=>?_,fun h=>?_⟩
 ·rw[h.1];rfl
 ·intro q hq
  rw[h.1]at hq
  simp at hq
  rcases hq with rfl|rfl
  ·exact h.2.1
  ·exact h.2.2
theorem ze2(t:Int)(ds:List DatL):(zaz t ds).length≤ds.length:=by
 unfold zaz
 split
 ·exact List.length_filterMap_le _ _
 ·simp
theorem zb9:∀(had:List (List UInt8)) (l:List Nm),∀x∈za1 had l,x∈l
 |_,[],x,h=>by cases h
 |had,y::l,x,h=>by
  unfold za1 at h
  split at h
  ·exact List.mem_cons_of_mem _ (zb9 had l x h)
  ·rcases List.mem_cons.1 h with rfl|h
   ·exact List.mem_cons_self ..
   ·exact List.mem_cons_of_mem _ (zb9 _ l x h)
theorem zdk:∀(had:List (List UInt8)) (l:List Nm),(za1 had l).length≤l.length
 |_,[]=>Nat.le_refl _
 |had,y::l=>by
  unfold za1
  split
  ·have:=zdk had l;rw[List.length_cons];omega
  ·have:=zdk (zaX y::had) l;rw[List.length_cons,List.length_cons];omega
theorem zfZ(R:List RecL)(hs:List Nm):(zbx R hs).length≤hs.length:=List.length_filterMap_le _ _
theorem Rows.mapM{α β:Type}{k:Nat}{C:List Value→α→Prop}{C':List Value→β→Prop}{w:World}{v:Value}{xs:List α}(h:Rows k C w v xs)(f:α→β)(hC:∀cs x,x∈xs→C cs x→C' cs (f x)):Rows k C' w v (xs.map f):=by
 obtain⟨L,h1,h2,h3⟩:=h
 refine⟨L,h1,by rw[List.length_map];exact h2,fun i h h'=>?_⟩
 rw[List.length_map]at h'
 rw[List.getElem_map]
 exact hC _ _ (List.getElem_mem h') (h3 i h h')
structure RfI(w0 w:World)(D b2 b4 b7:Nat)(ov lv dv sv:Value)(cut:Nm)(R:List RecL)(ds:List DatL)(pre:List Nm)(U:Nat→Prop)(A:World):Prop where
 e:Ext w A
 sz:D≤A.heap.size
 z:A.heap[b2]? =some (.cells #[ov,lv] 34 (0,0))
 c:A.heap[b4]? =some (.cells #[vi 0,.slice Option.none 0 0,.slice Option.none 0 0,.bool false,.slice Option.none 0 0] 31 (0,0))
 d:Rows 5 (DatAt w0) A dv ds
 s:Row A sv (cut.map vs)
 g:∃gv,∃G:List GlX,A.heap[b7]? =some (.cells #[vi 4,dv,sv,.bool false,gv] 31 (0,0))∧G.map Prod.fst=zbx R pre∧Owns 2 glC (D+3) A 112 gv G∧(∀x∈G,Row w0 x.2.1 (x.1.1.map vs)∧Rows 5 (DatAt w0) A x.2.2 x.1.2∧BlkB (D+3) A x.2.2∧∀a n c,x.2.2= .slice (some a) n c→some a.block≠gv.ownBlock)∧∀b,U b↔some b=gv.ownBlock
set_option maxHeartbeats 1000000 in
theorem Refer_ok{w0 w:World}{ov lv nv:Value}{o cut:Nm}{R:List RecL}(hz:ZnAt w0 w ov lv o R)(hR:zdw R)(hn:Row w nv (cut.map vs))(hok:NmS cut):
  Fn Tryz.prog 61 #[.agg #[ov,lv],nv] w (fun v w'=>Ext w w'∧∃cs,v= .agg cs.toArray∧ResB w0 w.heap.size w' cs (zeu R cut)):=by
 obtain⟨ao,co,hov,_⟩:=id hz.org
 obtain⟨al,cl,hlv,_⟩:=hz.recs.open
 rw[hov,hlv]
 refine enter Tryz.func61 Tryz.ntmps61 rfl rfl ?_
 repeat refine c_r ?_
 refine rg0 ?_
 repeat refine c_r ?_
 rw[←hov,←hlv]
 rw[zam]
 refine zaH ?_
 intro w1 hE1 hs1 hA hC
 have p1:zaf w1 (some ⟨w.heap.size,1,Option.none⟩)=some lv:=zac hA rfl
 have hz1:=hz.ext hE1
 refine rq ?_;intro gd K hgd hK
 try simp (disch:=first|omega|assumption|rfl) only[go_sem,p1,Nat.zero_add]
 refine Fn.mono (Of_ok hz1.e0 hz1.recs (hn.ext hE1) hok.lb (by have:=hok.len;omega) hz.ok hz.rl) ?_
 rintro _ w2 ⟨hE2,ow,ty,tl,dv,rfl,how,hty,hdv,hdb⟩
 have hdd:(ofC R cut 2).map RecL.dat=datC R cut 2:=rfl
 rw[hdd]at hdv
 obtain⟨bb,hbb⟩:∃bb:Bool,decide (ofC R cut 2≠ [])=bb:=⟨_,rfl⟩
 rw[hbb]
 try simp only[go_sem]
 have hB3:=zaw w2 (.cells #[.slice Option.none 0 0,vi 0,v32 0,.slice Option.none 0 0] 209 (0,0))
 have hE4:=Ext.alloc w2 (.cells #[.slice Option.none 0 0,vi 0,v32 0,.slice Option.none 0 0] 209 (0,0))
 have hs4:=zam w2 (.cells #[.slice Option.none 0 0,vi 0,v32 0,.slice Option.none 0 0] 209 (0,0))
 revert hB3 hE4 hs4
 generalize w2.alloc (.cells #[.slice Option.none 0 0,vi 0,v32 0,.slice Option.none 0 0] 209 (0,0))=w3
 intro hB3 hE4 hs4
 obtain⟨ad,cd,hdv',hcd,_⟩:=hdv.open
 refine zaE (P:=Tryz.prog) (t:=209) (l:=[ow,vi ty,v32 tl,dv]) hB3 rfl (fun v h=>by
  simp at h
  rcases h with rfl|rfl|rfl|rfl
  ·exact how
  ·rfl
  ·rfl
  ·rw[hdv'];rfl) rfl rfl ?_
 intro w4 hs5 hB5 hk5
 try simp only[go_sem]
 refine hK _ _ ?_;clear hK hgd;clear K;try clear gd
 have hE5:Ext w2 w4:=Keep.to_ext hE4 rfl (fun b hb=>by omega) hk5
 have hE14:=hE2.trans hE5
 have hEw4:=hE1.trans hE14
 have q3:zaf w4 (some ⟨w2.heap.size,3,Option.none⟩)=some dv:=zcl hB5 rfl
 have hdv4:=hdv.ext hE5
 have hdb4:BlkB w.heap.size w4 dv:=(hdb.ext hE5.size).mono hE1.size
 have e1:=hE1.size
 have e2:=hE14.size
 clear hB3 hE4 hs4 hk5 hs5
 repeat refine c_r ?_
 refine zaC (Q:=fun e σ' ds' v'=>e= .normal∧ds'=[]∧σ' 2= .pointer (some ⟨w.heap.size,0,Option.none⟩)∧σ' 4= .pointer (some ⟨w.heap.size+1,0,Option.none⟩)∧σ' 5= .pointer (some ⟨w2.heap.size,0,Option.none⟩)∧Ext w4 v'∧∃b7 sv,σ' 7= .pointer (some ⟨b7,0,Option.none⟩)∧w4.heap.size≤b7∧v'.heap[b7]? =some (.cells #[vi 4,dv,sv,.bool false,.slice Option.none 0 0] 31 (0,0))∧Row v' sv (cut.map vs)∧BlkB w4.heap.size v' sv∧∀a n c,sv= .slice (some a) n c→a.block≠b7) ?_ ?_
 ·refine zfB (fun i=>i==7) (.run [(0,true),(3,true),(4,true)] (.fork 4 [1,6] (fun i=>if i=1 then(.run [] (.fork 3 [2,6] (fun i=>if i=2 then(.run [(5,true),(6,false),(7,false)] .fin) else(.run [(2,false),(5,true),(7,false)] .fin)))) else(.run [(1,false),(2,false),(5,true),(7,false)] .fin)))) NoS mixed (by kernel_rfl) ?_;intro gd K x hgd hx hxe hK;clear hxe
  have q3x:=zab hx q3
  simp (disch:=first|omega|assumption|rfl) only[go_sem,q3x,Nat.zero_add]
  simp only[zbg,zbv];refine⟨?_,?_⟩
  ·simp (disch:=first|omega|assumption|rfl) only[go_sem]
   refine Fn.mono (zde (hn.ext (hEw4.trans (hx))) hok.len) ?_
   rintro u y1 ⟨hou,hy1⟩
   refine⟨.inr hy1,?_⟩
   obtain⟨au,cu,hu'⟩:=hou.slice
   have hur:=hou.row
   have hub:=hou.blk
   rw[hu']at hur hub
   rw[List.length_map]at hu' hur hub
   rw[hu']
   obtain⟨_,_,he,hcc,hgg⟩:=id hur
   injection he with g1 g2 g3
   subst g1 g3
   rw[List.length_map]at hcc
   have hrc:Row y1 (.slice au cut.length cut.length) (cut.map vs):=⟨au,cut.length,by rw[List.length_map],by rw[List.length_map];exact Nat.le_refl _,hgg⟩
   have hrb:BlkB x.heap.size y1 (.slice au cut.length cut.length):=hub.same
   have hys1:=hy1.size
   simp (disch:=first|omega|assumption|rfl) only[go_sem]
   simp only[zbg,zbv];refine⟨?_,?_⟩
   ·simp (disch:=first|omega|assumption|rfl) only[go_sem]
    refine Fn.mono (P_cs.Clip_ok hcc) ?_
    rintro _ z0 ⟨rfl,hz0⟩
    refine⟨.inr (by rw[hz0];exact Keep.refl _ _),?_⟩
    rw[hz0]
    clear hz0 z0
    simp (disch:=first|omega|assumption|rfl) only[go_sem]
    refine⟨by kernel_rfl,?_⟩
    rw[hdv',show bdV Tryz.prog 31 [(0,vi 4),(2,.slice au cut.length cut.length),(1,.slice ad (datC R cut 2).length cd)]=some (.agg #[vi 4,.slice ad (datC R cut 2).length cd,.slice au cut.length cut.length,.bool false,.slice Option.none 0 0]) from by kernel_rfl]
    try simp (disch:=first|omega|assumption|rfl) only[go_sem]
    refine⟨.inr (Ext.alloc y1 _),?_⟩
    have hB7:=zaw y1 (.cells #[vi 0,.slice Option.none 0 0,.slice Option.none 0 0,.bool false,.slice Option.none 0 0] 31 (0,0))
    have hy3:=Ext.alloc y1 (.cells #[vi 0,.slice Option.none 0 0,.slice Option.none 0 0,.bool false,.slice Option.none 0 0] 31 (0,0))
    have hs7:=zam y1 (.cells #[vi 0,.slice Option.none 0 0,.slice Option.none 0 0,.bool false,.slice Option.none 0 0] 31 (0,0))
    revert hB7 hy3 hs7
    generalize y1.alloc (.cells #[vi 0,.slice Option.none 0 0,.slice Option.none 0 0,.bool false,.slice Option.none 0 0] 31 (0,0))=y3
    intro hB7 hy3 hs7
    have hys3:=hy3.size
    try simp (disch:=first|omega|assumption|rfl) only[go_sem]
    refine zaE (P:=Tryz.prog) (t:=31) (l:=[vi 4,.slice ad (datC R cut 2).length cd,.slice au cut.length cut.length,.bool false,.slice Option.none 0 0]) hB7 rfl (fun v h=>by simp at h;rcases h with rfl|rfl|rfl|rfl|rfl<;>rfl) rfl rfl ?_
    intro z hz' hbz hkz
    refine⟨.inl rfl,?_⟩
    simp (disch:=first|omega|assumption|rfl) only[go_sem]
    have hxs:=hx.size
    have hav:∀a n c,Value.slice au cut.length cut.length= .slice (some a) n c→a.block≠y1.heap.size:=fun a n c hv=>by have h1:=hrb a n c hv;omega
    exact hK _ _ ⟨rfl,rfl,vq0,vq0,vq0,Keep.to_ext (((hx).trans hy1).trans hy3) rfl (fun b hb=>by omega) hkz,y1.heap.size,.slice au cut.length cut.length,vq0,by omega,by rw[hdv'];exact hbz,(hrc.ext hy3).blocks (fun a n c hv=>hkz.block _ (by have h1:=(hrb.ext (hy3).size) a n c hv;omega) (hav a n c hv)),(((hrb.ext (hy3).size)).ext (by omega)).mono (by omega),hav⟩
   ·simp (disch:=first|omega|assumption|rfl) only[go_sem]
    refine⟨.inr (Ext.alloc y1 _),?_⟩
    have hB7:=zaw y1 (.cells #[vi 0,.slice Option.none 0 0,.slice Option.none 0 0,.bool false,.slice Option.none 0 0] 31 (0,0))
    have hy2:=Ext.alloc y1 (.cells #[vi 0,.slice Option.none 0 0,.slice Option.none 0 0,.bool false,.slice Option.none 0 0] 31 (0,0))
    have hs7:=zam y1 (.cells #[vi 0,.slice Option.none 0 0,.slice Option.none 0 0,.bool false,.slice Option.none 0 0] 31 (0,0))
    revert hB7 hy2 hs7
    generalize y1.alloc (.cells #[vi 0,.slice Option.none 0 0,.slice Option.none 0 0,.bool false,.slice Option.none 0 0] 31 (0,0))=y2
    intro hB7 hy2 hs7
    have hys2:=hy2.size
    try simp (disch:=first|omega|assumption|rfl) only[go_sem]
    refine Fn.mono (P_cs.Clip_ok hcc) ?_
    rintro _ z0 ⟨rfl,hz0⟩
    refine⟨.inr (by rw[hz0];exact Keep.refl _ _),?_⟩
    rw[hz0]
    clear hz0 z0
    simp (disch:=first|omega|assumption|rfl) only[go_sem]
    refine⟨by kernel_rfl,?_⟩
    rw[hdv',show bdV Tryz.prog 31 [(0,vi 4),(2,.slice au cut.length cut.length),(1,.slice ad (datC R cut 2).length cd)]=some (.agg #[vi 4,.slice ad (datC R cut 2).length cd,.slice au cut.length cut.length,.bool false,.slice Option.none 0 0]) from by kernel_rfl]
    try simp (disch:=first|omega|assumption|rfl) only[go_sem]
    refine zaE (P:=Tryz.prog) (t:=31) (l:=[vi 4,.slice ad (datC R cut 2).length cd,.slice au cut.length cut.length,.bool false,.slice Option.none 0 0]) hB7 rfl (fun v h=>by simp at h;rcases h with rfl|rfl|rfl|rfl|rfl<;>rfl) rfl rfl ?_
    intro z hz' hbz hkz
    refine⟨.inl rfl,?_⟩
    simp (disch:=first|omega|assumption|rfl) only[go_sem]
    have hxs:=hx.size
    have hav:∀a n c,Value.slice au cut.length cut.length= .slice (some a) n c→a.block≠y1.heap.size:=fun a n c hv=>by have h1:=hrb a n c hv;omega
    exact hK _ _ ⟨rfl,rfl,vq0,vq0,vq0,Keep.to_ext (((hx).trans hy1).trans hy2) rfl (fun b hb=>by omega) hkz,y1.heap.size,.slice au cut.length cut.length,vq0,by omega,by rw[hdv'];exact hbz,(hrc.ext hy2).blocks (fun a n c hv=>hkz.block _ (by have h1:=(hrb.ext (hy2).size) a n c hv;omega) (hav a n c hv)),(((hrb.ext (hy2).size)).ext (by omega)).mono (by omega),hav⟩
  ·simp (disch:=first|omega|assumption|rfl) only[go_sem]
   refine⟨.inr (Ext.alloc x _),?_⟩
   have hB7:=zaw x (.cells #[vi 0,.slice Option.none 0 0,.slice Option.none 0 0,.bool false,.slice Option.none 0 0] 31 (0,0))
   have hy1:=Ext.alloc x (.cells #[vi 0,.slice Option.none 0 0,.slice Option.none 0 0,.bool false,.slice Option.none 0 0] 31 (0,0))
   have hs7:=zam x (.cells #[vi 0,.slice Option.none 0 0,.slice Option.none 0 0,.bool false,.slice Option.none 0 0] 31 (0,0))
   revert hB7 hy1 hs7
   generalize x.alloc (.cells #[vi 0,.slice Option.none 0 0,.slice Option.none 0 0,.bool false,.slice Option.none 0 0] 31 (0,0))=y1
   intro hB7 hy1 hs7
   have hys1:=hy1.size
   try simp (disch:=first|omega|assumption|rfl) only[go_sem]
   refine Fn.mono (zde (hn.ext (hEw4.trans ((hx).trans hy1))) hok.len) ?_
   rintro u y2 ⟨hou,hy2⟩
   refine⟨.inr hy2,?_⟩
   obtain⟨au,cu,hu'⟩:=hou.slice
   have hur:=hou.row
   have hub:=hou.blk
   rw[hu']at hur hub
   rw[List.length_map]at hu' hur hub
   rw[hu']
   obtain⟨_,_,he,hcc,hgg⟩:=id hur
   injection he with g1 g2 g3
   subst g1 g3
   rw[List.length_map]at hcc
   have hrc:Row y2 (.slice au cut.length cut.length) (cut.map vs):=⟨au,cut.length,by rw[List.length_map],by rw[List.length_map];exact Nat.le_refl _,hgg⟩
   have hrb:BlkB y1.heap.size y2 (.slice au cut.length cut.length):=hub.same
   have hys2:=hy2.size
   simp (disch:=first|omega|assumption|rfl) only[go_sem]
   refine Fn.mono (P_cs.Clip_ok hcc) ?_
   rintro _ z0 ⟨rfl,hz0⟩
   refine⟨.inr (by rw[hz0];exact Keep.refl _ _),?_⟩
   rw[hz0]
   clear hz0 z0
   simp (disch:=first|omega|assumption|rfl) only[go_sem]
   refine⟨by kernel_rfl,?_⟩
   rw[hdv',show bdV Tryz.prog 31 [(0,vi 4),(2,.slice au cut.length cut.length),(1,.slice ad (datC R cut 2).length cd)]=some (.agg #[vi 4,.slice ad (datC R cut 2).length cd,.slice au cut.length cut.length,.bool false,.slice Option.none 0 0]) from by kernel_rfl]
   try simp (disch:=first|omega|assumption|rfl) only[go_sem]
   refine zaE (P:=Tryz.prog) (t:=31) (l:=[vi 4,.slice ad (datC R cut 2).length cd,.slice au cut.length cut.length,.bool false,.slice Option.none 0 0]) (Ext.at hy2 hB7) rfl (fun v h=>by simp at h;rcases h with rfl|rfl|rfl|rfl|rfl<;>rfl) rfl rfl ?_
   intro z hz' hbz hkz
   refine⟨.inl rfl,?_⟩
   simp (disch:=first|omega|assumption|rfl) only[go_sem]
   have hxs:=hx.size
   have hav:∀a n c,Value.slice au cut.length cut.length= .slice (some a) n c→a.block≠x.heap.size:=fun a n c hv=>by have h1:=hrb a n c hv;omega
   exact hK _ _ ⟨rfl,rfl,vq0,vq0,vq0,Keep.to_ext (((hx).trans hy1).trans hy2) rfl (fun b hb=>by omega) hkz,x.heap.size,.slice au cut.length cut.length,vq0,by omega,by rw[hdv'];exact hbz,hrc.blocks (fun a n c hv=>hkz.block _ (by have h1:=hrb a n c hv;omega) (hav a n c hv)),((hrb).ext (by omega)).mono (by omega),hav⟩
 rintro _ σ1 _ w5 ⟨rfl,rfl,h2,h4,h5,hE6,b7,sv,h7,hb7,hB7,hsv,hsb,hsne⟩
 have hEw5:=hEw4.trans hE6
 have d5:=zah (n:=4) (Ext.at hE6 hB5) rfl
 have hdv5:=hdv4.ext hE6
 have hb7l:b7<w5.heap.size:=(Array.getElem?_eq_some_iff.1 hB7).1
 have hsA5:=Ext.at (hE14.trans hE6) hA
 have hsC5:=Ext.at (hE14.trans hE6) hC
 have e3:=hz.e0.size
 have e6:=hE6.size
 have hdlow:∀a n c,dv= .slice (some a) n c→a.block<w4.heap.size:=fun a n c hv=>(hdb4 a n c hv).2
 repeat refine c_r ?_
 refine rq ?_;intro gd K hgd hK
 try simp (disch:=first|omega|assumption|rfl) only[go_sem,h5,d5]
 refine Fn.mono ziQ ?_
 rintro _ w6 ⟨rfl,hE7,hs7,hb8⟩
 try simp only[go_sem]
 refine hK _ _ ?_;clear hK hgd;clear K;try clear gd
 have hEw6:=hEw5.trans hE7
 have tyEq:datC R cut 2≠ []→ty=2:=fun h=>hty (zgF.2 h)
 -- the hosts,whatever the type says of no records
 have hH:zbk ty (datC R cut 2)=zbk 2 (datC R cut 2):=by
  by_cases hne:datC R cut 2=[]
  ·rw[hne];unfold zbk zaz;split<;>split<;>rfl
  ·rw[tyEq hne]
 have hit:=zkV (C:=fun b=>b=b7) (hz.e0.trans hEw6) hb8 how rfl (hdv5.ext hE7) (fun b hb=>by omega) (by have:=zbe (R:=R) (n:=cut) (t:=2);have:=hz.rl;omega) (zb0 hR (t:=2) (n:=cut) (fun d hd=>hd))
 rw[hH]at hit
 obtain⟨D,hD⟩:∃D,w6.heap.size=D:=⟨_,rfl⟩
 have hHl:(zbk 2 (datC R cut 2)).length≤1000000000:=by
  have h1:=zdk [] (zaz 2 (datC R cut 2))
  have h2:=ze2 2 (datC R cut 2)
  have h3:=zbe (R:=R) (n:=cut) (t:=2)
  have h4:=hz.rl
  unfold zbk;omega
 have hHg:∀x∈zbk 2 (datC R cut 2),NmG x:=fun x hx=>zb0 hR (t:=2) (n:=cut) (fun d hd=>hd) x (zb9 _ _ x hx)
 have hslow:∀a n c,sv= .slice (some a) n c→a.block<w5.heap.size:=fun a n c hv=>(hsb a n c hv).2
 repeat refine c_r ?_
 refine zgK (g:=177) (cap:=#[.pointer (some ⟨w5.heap.size,0,Option.none⟩)]) (vq0) rfl hit (Keep.refl _ _) (Nat.le_refl _) (fun b hb=>by omega)
  (fun x U B args h=>by obtain⟨v,h,_⟩:=h;rw[h];rfl)
  (RfI w0 w D w.heap.size (w.heap.size+1) b7 ov lv dv sv cut R (datC R cut 2))
  (fun _ _ _=>False) ?_ (fun _ _ _ _ h _=>h.elim) ?_ ?_ ?_ (fun _ _ _ _ _ _ h _=>h.elim)
 ·rintro pre U A B ⟨i1,isz,i2,i3,i4,i5,gv,G,i6,i7,i8,i9,i10⟩ hU hk
  have hsA:=(Array.getElem?_eq_some_iff.1 i6).1
  have hks:=hk.size
  have hlow:∀b,b<D→¬span w6.heap.size (2+1) b:=fun b hb=>by unfold span;omega
  refine⟨Keep.to_ext i1 rfl (fun b hb=>by unfold span at hb;omega) hk,by omega,(hk.block _ (Array.getElem?_eq_some_iff.1 i2).1 (hlow _ (by omega))).trans i2,(hk.block _ (Array.getElem?_eq_some_iff.1 i3).1 (hlow _ (by omega))).trans i3,?_,?_,gv,G,(hk.block _ hsA (hlow _ (by omega))).trans i6,i7,i8.keep hk (fun b hb h=>by have:=(i8.ge hb).1;unfold span at h;omega),fun x hx=>?_,i10⟩
  ·exact i4.blocks fun a n c hv=>by
    have h1:=hdlow a n c hv
    exact hk.block _ (by have:=i1.size;omega) (hlow _ (by omega))
  ·exact i5.blocks fun a n c hv=>by
    have h1:=hslow a n c hv
    exact hk.block _ (by omega) (hlow _ (by omega))
  ·obtain⟨j1,j2,j3,j4⟩:=i9 x hx
   exact⟨j1,j2.keep hk j3 (fun b hb _=>by unfold span;omega),j3.ext hk.size,j4⟩
 ·exact⟨hEw6,by omega,Ext.at hE7 hsA5,Ext.at hE7 hsC5,hdv5.ext hE7,hsv.ext hE7,.slice Option.none 0 0,[],Ext.at hE7 hB7,rfl,Owns.nil _ _ _ _ _,fun x h=>absurd h (by simp),fun b=>⟨fun h=>h.elim,fun h=>by cases h⟩⟩
 ·rintro lp pre U x A args ⟨suf,hxs⟩ hszA ⟨i1,isz,i2,i3,i4,i5,gv,G,i6,i7,i8,i9,i10⟩ hUb ⟨xv,rfl,hxr⟩
  obtain⟨ax,cx,hxv,_⟩:=id hxr
  have hxg:NmG x:=hHg x (by rw[hxs];simp)
  have hpl:pre.length+1≤(zbk 2 (datC R cut 2)).length:=by rw[hxs];simp
  refine rq ?_;intro gd K hgd hK
  try simp only[go_sem]
  refine hK _ _ ?_;clear hK hgd;clear K;try clear gd
  refine zav ?_
  refine⟨rfl,Keep.refl _ _,fun Y hY=>?_⟩
  have hlow:∀b,b<D→¬two w6.heap.size b:=fun b hb=>by unfold two;omega
  have hhigh:∀b,D+2≤b→¬two w6.heap.size b:=fun b hb=>by unfold two;omega
  have hYs:=hY.size
  have k2:=(hY.block _ (Array.getElem?_eq_some_iff.1 i2).1 (hlow _ (by omega))).trans i2
  have k3:=(hY.block _ (Array.getElem?_eq_some_iff.1 i3).1 (hlow _ (by omega))).trans i3
  have k6:=(hY.block _ (Array.getElem?_eq_some_iff.1 i6).1 (hlow _ (by omega))).trans i6
  have k4:Rows 5 (DatAt w0) Y dv (datC R cut 2):=i4.blocks fun a n c hv=>hY.block _ (by have:=hdlow a n c hv;omega) (hlow _ (by have:=hdlow a n c hv;omega))
  have k5:Row Y sv (cut.map vs):=i5.blocks fun a n c hv=>hY.block _ (by have:=hslow a n c hv;omega) (hlow _ (by have:=hslow a n c hv;omega))
  have k8:=i8.keep hY (fun b hb=>hhigh b (by have:=(i8.ge hb).1;omega))
  have k9:∀x∈G,Row w0 x.2.1 (x.1.1.map vs)∧Rows 5 (DatAt w0) Y x.2.2 x.1.2∧BlkB (D+3) Y x.2.2∧∀a n c,x.2.2= .slice (some a) n c→some a.block≠gv.ownBlock:=fun x hx=>by
   obtain⟨j1,j2,j3,j4⟩:=i9 x hx
   exact⟨j1,j2.keep hY j3 (fun b hb _=>hhigh b (by omega)),j3.ext hYs,j4⟩
  have hwY:Ext w Y:=Keep.to_ext i1 rfl (fun b hb=>by unfold two at hb;omega) hY
  have hw0Y:=hz.e0.trans hwY
  have d2:=zah (n:=2) (l:=[ov,lv]) k2 rfl
  have hzY:=hz.ext hwY
  clear i1 i2 i3 i4 i5 i6 i8 i9
  repeat refine c_r ?_
  refine rq ?_;intro gd K hgd hK
  try simp (disch:=first|omega|assumption|rfl) only[go_sem,h2,d2]
  refine Fn.mono (Glue_ok hzY (hxr.ext hw0Y) hxg.m.s) ?_
  rintro gl Y1 ⟨hY1,hgr,hgb⟩
  obtain⟨ag,cg,hgv,hcg,_⟩:=hgr.open
  try simp only[go_sem]
  refine hK _ _ ?_;clear hK hgd;clear K;try clear gd
  have hY1s:=hY1.size
  repeat refine c_r ?_
  refine rg1 hgv ?_
  repeat refine c_r ?_
  refine wc0 ?_ ?_
  ·intro hlt
   simp only[decide_eq_true_eq]at hlt
   have hgne:zbd R x≠ []:=List.length_pos_iff.1 (by omega)
   have k61:=Ext.at hY1 k6
   have g4:zaf Y1 (some ⟨b7,4,Option.none⟩)=some gv:=zcl (l:=[vi 4,dv,sv,.bool false,gv]) k61 rfl
   have hgx:one xv=true:=by rw[hxv];rfl
   have hgo:one gl=true:=by rw[hgv];rfl
   repeat refine c_r ?_
   refine rq ?_;intro gd K hgd hK
   try simp (disch:=first|omega|assumption|rfl) only[go_sem,h7,g4,Nat.zero_add]
   rw[hxv]
   refine⟨by kernel_rfl,?_⟩
   rw[show bdV Tryz.prog 112 [(0,.slice ax (x.map vs).length cx),(1,.slice ag (zbd R x).length cg)]=some (.agg #[.slice ax (x.map vs).length cx,.slice ag (zbd R x).length cg]) from by kernel_rfl]
   rw[←hxv,←hgv]
   try simp (disch:=first|omega|assumption|rfl) only[go_sem,h7,g4,Nat.zero_add]
   refine zaT (a:=((x,zbd R x),(xv,gl))) (l:=[xv,gl]) zeQ (by rfl) (by rfl) (by rfl) (by rfl) ⟨rfl,hgx,hgo⟩ (by decide) ?_
   intro Y2 hY2 hsY2 hoY2
   try simp (disch:=first|omega|assumption|rfl) only[go_sem,h7,g4,Nat.zero_add]
   have hGl:G.length≤pre.length:=by
    have h1:=congrArg List.length i7
    rw[List.length_map]at h1
    have h2:=zfZ R pre
    omega
   refine zaI zeQ ((k8.ext hY1).ext hY2) hoY2.rows (by rfl) (by rfl) (by rfl) (by rfl) (by rfl) (by rfl) (by decide) (vr0) (vr0) (by rw[List.length_singleton];omega) (by decide) (by omega) ?_
   intro gv' Y3 hgv' _ hkY3 hfr
   try simp (disch:=first|omega|assumption|rfl) only[go_sem,h7,Nat.zero_add]
   have hown:∀b,some b=gv.ownBlock→D+3≤b∧b<Y.heap.size:=fun b hb=>k8.ge hb
   have hb7o:¬some b7=gv.ownBlock:=fun h=>by have:=hown b7 h;omega
   have k63:=(hkY3.block b7 (by omega) hb7o).trans (Ext.at hY2 k61)
   obtain⟨ag',cg',hgv'',_⟩:=hgv'.rows.open
   refine zaV (P:=Tryz.prog) (t:=29) (j:=4) (l:=[vi 4,dv,sv,.bool false,gv]) k63 (by simp) (by rw[hgv''];rfl) rfl rfl ?_
   intro Y4 hsY4 hbY4 hkY4
   try simp only[go_sem]
   refine hK _ _ ?_;clear hK hgd;clear K;try clear gd
   have hY2s:=hY2.size
   have hY3s:=hkY3.size
   have hown':∀b,some b=gv'.ownBlock→D+3≤b∧b<Y3.heap.size:=fun b hb=>hgv'.ge hb
   have hb7o':¬some b7=gv'.ownBlock:=fun h=>by have:=hown' b7 h;omega
   -- from Y2 on:the row of one's own and b7 alone
   have hk24:Keep (fun b=>b=b7∨some b=gv.ownBlock) Y2 Y4:=(hkY3.mono (fun b _ h=> .inr h)).trans (hkY4.mono (fun b _ h=> .inl h))
   have hYY2:=hY1.trans hY2
   have hYY4:Keep (fun b=>b=b7∨some b=gv.ownBlock) Y Y4:=(hYY2.mono (fun b _ h=>h.elim)).trans hk24
   have hlow2:∀b,b<D→b≠b7→¬(b=b7∨some b=gv.ownBlock):=fun b hb hne h=>by
    rcases h with h|h
    ·exact hne h
    ·have:=hown b h;omega
   have hlowd:∀{v:Value} {L:Nat},L≤D→(∀a n c,v= .slice (some a) n c→a.block<L∧a.block≠b7)→∀a n c,v= .slice (some a) n c→Y4.heap[a.block]? =Y.heap[a.block]?:=fun {v L} hL h a n c hv=>by
    have h1:=h a n c hv
    exact hYY4.block _ (by omega) (hlow2 _ (by omega) h1.2)
   have dq:∀(q:Value) (yw:World),(∀a n c,q= .slice (some a) n c→a.block<Y2.heap.size∧a.block≠b7∧some a.block≠gv.ownBlock)→∀a n c,q= .slice (some a) n c→Y4.heap[a.block]? =Y2.heap[a.block]?:=fun q yw h a n c hv=>by
    obtain⟨h1,h2,h3⟩:=h a n c hv
    exact hk24.block _ h1 (fun h=>by
     rcases h with h|h
     ·exact h2 h
     ·exact h3 h)
   repeat refine c_r ?_
   refine⟨fun b=>some b=gv'.ownBlock,⟨Keep.to_ext hwY rfl (fun b hb=>by
     rcases hb with hb|hb
     ·omega
     ·have:=hown b hb;omega) hYY4,by have:=hYY4.size;omega,(hYY4.block _ (by omega) (hlow2 _ (by omega) (by omega))).trans k2,(hYY4.block _ (by omega) (hlow2 _ (by omega) (by omega))).trans k3,?_,?_,gv',G++ [((x,zbd R x),(xv,gl))],by simpa using hbY4,?_,hgv'.keep hkY4 (fun b hb h=>hb7o' (h▸hb)),fun y hy=>?_,fun b=>Iff.rfl⟩,fun b hb=>?_,?_⟩
   ·exact k4.blocks (hlowd (L:=w4.heap.size) (by omega) fun a n c hv=>⟨hdlow a n c hv,by have:=hdlow a n c hv;omega⟩)
   ·exact k5.blocks (hlowd (L:=w5.heap.size) (by omega) fun a n c hv=>⟨hslow a n c hv,hsne a n c hv⟩)
   ·rw[List.map_append,i7,zf0,if_neg hgne];rfl
   ·rcases List.mem_append.1 hy with hy|hy
    ·obtain⟨j1,j2,j3,j4⟩:=k9 y hy
     have j3':BlkB (D+3) Y2 y.2.2:=(j3.ext hY1s).ext hY2s
     refine⟨j1,((j2.ext hY1).ext hY2).blocks (dq _ Y (fun a n c hv=>⟨(j3' a n c hv).2,by have:=j3' a n c hv;omega,j4 a n c hv⟩)),j3'.ext (by omega),fun a n c hv hb=>?_⟩
     rcases hfr _ hb with h|h
     ·exact j4 a n c hv h
     ·have:=(j3' a n c hv).2;omega
    ·rw[List.mem_singleton.1 hy]
     have hgb2:BlkB Y.heap.size Y2 gl:=hgb.ext hY2s
     refine⟨hxr,(hgr.ext hY2).blocks (dq _ Y (fun a n c hv=>⟨(hgb2 a n c hv).2,by have:=hgb2 a n c hv;omega,fun h=>by have:=hgb2 a n c hv;have:=hown _ h;omega⟩)),(hgb2.ext (by omega)).mono (by omega),fun a n c hv hb=>?_⟩
     have h1:=hgb2 a n c hv
     rcases hfr _ hb with h|h
     ·have:=hown _ h;omega
     ·omega
   ·rcases hfr b hb with h|h
    ·exact .inl ((i10 b).2 h)
    ·exact .inr ⟨by omega,by have:=(hown' b hb).2;omega⟩
   ·exact hYY4.mono (fun b _ h=>h.imp id (fun h=>(i10 b).2 h))
  ·intro hge
   simp only[decide_eq_false_iff_not]at hge
   have hgnil:zbd R x=[]:=List.length_eq_zero_iff.1 (by omega)
   repeat refine c_r ?_
   refine⟨U,⟨hwY.trans hY1,by omega,Ext.at hY1 k2,Ext.at hY1 k3,k4.ext hY1,k5.ext hY1,gv,G,Ext.at hY1 k6,by rw[zf0,if_pos hgnil,List.append_nil];exact i7,k8.ext hY1,fun y hy=>?_,i10⟩,fun b hb=> .inl hb,hY1.mono (fun _ _ h=>h.elim)⟩
   obtain⟨j1,j2,j3,j4⟩:=k9 y hy
   exact⟨j1,j2.ext hY1,j3.ext hY1s,j4⟩
 ·rintro xs U B rfl hszB hUb ⟨i1,isz,i2,i3,i4,i5,gv,G,i6,i7,i8,i9,i10⟩ hDB
  have d5':=zah (n:=5) (l:=[vi 4,dv,sv,.bool false,gv]) i6 rfl
  obtain⟨agl,cgl,hgle,_⟩:=i8.rows.open
  obtain⟨asv,csv,hsve,_⟩:=id i5
  have hDlt:w6.heap.size<B.heap.size:=(Array.getElem?_eq_some_iff.1 hDB).1
  repeat refine c_r ?_
  refine rq ?_;intro gd K hgd hK
  try simp (disch:=first|omega|assumption|rfl) only[go_sem,h7,h4,d5']
  refine zaE (P:=Tryz.prog) (t:=31) (l:=[vi 4,dv,sv,.bool false,gv]) i3 rfl (fun v h=>by
   simp at h
   rcases h with rfl|rfl|rfl|rfl|rfl
   ·rfl
   ·rw[hdv'];rfl
   ·rw[hsve];rfl
   ·rfl
   ·rw[hgle];rfl) rfl rfl ?_
  intro z hz' hbz hkz
  try simp only[go_sem]
  refine hK _ _ ?_;clear hK hgd;clear K;try clear gd
  repeat refine c_r ?_
  refine zbW (.inr rfl) Tryz.ntmps61 rfl ((hkz.block _ (by omega) (by omega)).trans hDB) ?_
  intro Z hkZ hsZ
  have hBZ:Keep (fun b=>b=w.heap.size+1∨b=w6.heap.size) B Z:=(hkz.mono (fun b _ h=> .inl h)).trans (hkZ.mono (fun b _ h=> .inr h))
  refine⟨_,zaL (x:=⟨w.heap.size+1,0,Option.none⟩) (k:=5) ((vq1 h4)) rfl rfl (zah (l:=[vi 4,dv,sv,.bool false,gv]) ((hkZ.block _ (by omega) (by omega)).trans hbz) rfl) zau,Keep.to_ext i1 rfl (fun b hb=>by omega) hBZ,_,rfl,dv,sv,gv,rfl,?_,?_,?_,?_,?_⟩
  ·exact i4.blocks fun a n c hv=>hBZ.block _ (by have:=hdlow a n c hv;omega) (by have h1:=hdb4 a n c hv;have:=hdlow a n c hv;have h3:=hdb a n c hv;omega)
  ·exact hdb4.ext (by have:=hBZ.size;omega)
  ·refine .inl ⟨i5.blocks fun a n c hv=>hBZ.block _ (by have:=hslow a n c hv;omega) (by have h1:=hsb a n c hv;omega),(hsb.ext (by have:=hBZ.size;omega)).mono (by omega)⟩
  ·have hgZ:Rows 2 glC Z gv G:=i8.rows.blocks fun a n c hv=>hBZ.block _ (i8.blk a n c hv).2 (by have:=i8.blk a n c hv;omega)
   have hgl:=hgZ.mapM (C':=GlB w0 w.heap.size Z) Prod.fst (fun cs x hx hc=>by
    obtain⟨j1,j2,j3,j4⟩:=i9 x hx
    exact⟨x.2.1,x.2.2,hc.1,j1,j2.blocks fun a n c hv=>hBZ.block _ (j3 a n c hv).2 (by have:=j3 a n c hv;omega),(j3.ext hBZ.size).mono (by omega)⟩)
   rw[i7]at hgl
   exact hgl
  ·exact(i8.blk.ext hBZ.size).mono (by omega)
def zeroRes:ResL:=⟨0,[],[],false,[]⟩
def zaG(R:List RecL)(q n:Nm):Option ResL:=
 if datC R n 39=[] then Option.none
 else if zaF (zbP q n (toN 39 ((datC R n 39).take 1)))=0 then some ⟨5,(datC R n 39).take 1,zbP q n (toN 39 ((datC R n 39).take 1)),false,[]⟩
 else some ⟨6,[],[],false,[]⟩
def atL(R:List RecL)(n:Nm)(t:Int)(wild:Bool):ResL:=
 if datC R n t≠ [] then⟨1,datC R n t,[],wild,[]⟩
 else if datC R n 5≠ [] then⟨5,(datC R n 5).take 1,toN 5 ((datC R n 5).take 1),wild,[]⟩
 else⟨2,[],[],wild,[]⟩
theorem toN_m{R:List RecL}(hR:zdw R){n:Nm}{t u:Int}:NmM (toN u ((datC R n t).take 1)):=by
 unfold toN
 cases hq:(zbk u ((datC R n t).take 1)).getLast? with
 |none=>exact⟨fun l h=>(by cases h),by simp⟩
 |some x=>
  have h1:=List.mem_of_getLast? hq
  exact(zb0 hR (t:=t) (n:=n) (fun d hd=>List.mem_of_mem_take hd) x (zb9 _ _ x h1)).m
theorem za7(w:World):Row w (.slice Option.none 0 0) (([]:Nm).map vs):=⟨Option.none,0,rfl,Nat.le_refl _,fun j h=>absurd h (by simp)⟩
abbrev zR:List Value:=[vi 0,.slice Option.none 0 0,.slice Option.none 0 0,.bool false,.slice Option.none 0 0]
set_option maxHeartbeats 1000000 in
theorem zjN{w0 w:World}{ov lv qv nv:Value}{o q n:Nm}{R:List RecL}(hz:ZnAt w0 w ov lv o R)(hR:zdw R)(hq:Row w qv (q.map vs))(hn:Row w nv (n.map vs))(mq:NmM q)(mn:NmM n)(hu:zaY q n=true):
  Fn Tryz.prog 62 #[.agg #[ov,lv],qv,nv] w (fun v w'=>Ext w w'∧∃cs,v= .tuple #[.agg cs.toArray,.bool (zaG R q n).isSome]∧ResB w0 w.heap.size w' cs ((zaG R q n).getD zeroRes)):=by
 obtain⟨ao,co,hov,_⟩:=id hz.org
 obtain⟨al,cl,hlv,_⟩:=hz.recs.open
 rw[hov,hlv]
 refine enter Tryz.func62 Tryz.ntmps62 rfl rfl ?_
 repeat refine c_r ?_
 refine rg0 ?_
 repeat refine c_r ?_
 rw[←hov,←hlv]
 rw[zam]
 refine zaH ?_
 intro w1 hE1 hs1 hA hC
 have d2:=zah (n:=2) (l:=[ov,lv]) hA rfl
 have hz1:=hz.ext hE1
 refine rq ?_;intro gd K hgd hK
 try simp (disch:=first|omega|assumption|rfl) only[go_sem,d2]
 refine Fn.mono (zje hz1 hR (hn.ext hE1) mn.s) ?_
 rintro _ w2 ⟨hE2,dv,tv,rfl,hdv,hdb,htv⟩
 obtain⟨bb,hbb⟩:∃bb:Bool,decide (datC R n 39≠ [])=bb:=⟨_,rfl⟩
 rw[hbb]
 try simp only[go_sem]
 refine hK _ _ ?_;clear hK hgd;clear K;try clear gd
 have hC2:=hE2.at hC
 have s2:=hE2.size
 have hEw2:=hE1.trans hE2
 repeat refine c_r ?_
 refine rg0 ?_
 repeat refine c_r ?_
 by_cases hne:datC R n 39≠ []
 ·rw[decide_eq_true hne]at hbb
  subst hbb
  refine zaB (t:=false) (vq0) (fun h=>by cases h) ?_
  intro _
  repeat refine c_r ?_
  refine rq ?_;intro gd K hgd hK
  try simp only[go_sem]
  refine Fn.mono (NSwap_ok w2 qv nv tv q n (toN 39 ((datC R n 39).take 1)) (hq.ext hEw2) (hn.ext hEw2) (htv.ext (hz.e0.trans hEw2)) mq mn (toN_m hR) hu) ?_
  rintro v w3 ⟨hE3,hgood,hbad⟩
  have hC3:=hE3.at hC2
  have s3:=hE3.size
  by_cases hck:zaF (zbP q n (toN 39 ((datC R n 39).take 1)))=0
  ·obtain⟨sv,rfl,hsv,hsvb⟩:=hgood hck
   obtain⟨as1,cs1,hsv',_⟩:=id hsv
   obtain⟨ad,cd,hdv',_⟩:=hdv.open
   have hren:zaG R q n=some ⟨5,(datC R n 39).take 1,zbP q n (toN 39 ((datC R n 39).take 1)),false,[]⟩:=by unfold zaG;rw[if_neg hne,if_pos hck]
   try simp only[go_sem]
   refine hK _ _ ?_;clear hK hgd;clear K;try clear gd
   repeat refine c_r ?_
   refine rg0 ?_
   repeat refine c_r ?_
   refine wc0 ?_ ?_
   ·intro h;simp at h
   intro _
   repeat refine c_r ?_
   refine rq ?_;intro gd K hgd hK
   try simp only[go_sem]
   rw[hsv',hdv']
   refine⟨by kernel_rfl,?_⟩
   rw[show bdV Tryz.prog 31 [(0,vi 5),(2,.slice as1 ((zbP q n (toN 39 ((datC R n 39).take 1))).map vs).length cs1),(1,.slice ad ((datC R n 39).take 1).length cd)]=some (.agg #[vi 5,.slice ad ((datC R n 39).take 1).length cd,.slice as1 ((zbP q n (toN 39 ((datC R n 39).take 1))).map vs).length cs1,.bool false,.slice Option.none 0 0]) from by kernel_rfl]
   try simp only[go_sem]
   refine zaE (P:=Tryz.prog) (t:=31) (l:=[vi 5,.slice ad ((datC R n 39).take 1).length cd,.slice as1 ((zbP q n (toN 39 ((datC R n 39).take 1))).map vs).length cs1,.bool false,.slice Option.none 0 0]) hC3 rfl (fun v h=>by simp at h;rcases h with rfl|rfl|rfl|rfl|rfl<;>rfl) rfl rfl ?_
   intro z hz' hbz hkz
   try simp only[go_sem]
   refine hK _ _ ?_;clear hK hgd;clear K;try clear gd
   repeat refine c_r ?_
   refine zay (.inr rfl) Tryz.ntmps62 rfl (zaL (x:=⟨w.heap.size+1,0,Option.none⟩) (k:=5) (vq0) rfl rfl (zah hbz rfl) (zar (v:= .bool true) (vr0) zau)) ?_
   refine⟨Keep.to_ext (hEw2.trans hE3) rfl (fun b hb=>by omega) hkz,_,by rw[hren];rfl,?_⟩
   rw[hren]
   refine⟨_,_,_,rfl,?_,?_,.inl ⟨?_,?_⟩,Rows.nil _ _ _,BlkB.nil⟩
   ·rw[←hdv']
    exact(hdv.ext hE3).keep hkz (hdb.ext hE3.size) (fun b hb _=>by omega)
   ·rw[←hdv']
    exact(hdb.ext (by omega)).mono (by omega)
   ·rw[←hsv']
    exact hsv.keepB hkz hsvb (fun b hb _=>by omega)
   ·rw[←hsv']
    exact(hsvb.ext (by omega)).mono (by omega)
  ·have hv:=hbad hck
   subst hv
   have hren:zaG R q n=some ⟨6,[],[],false,[]⟩:=by unfold zaG;rw[if_neg hne,if_neg hck]
   try simp only[go_sem]
   refine hK _ _ ?_;clear hK hgd;clear K;try clear gd
   repeat refine c_r ?_
   refine rg0 ?_
   repeat refine c_r ?_
   refine wc0 ?_ ?_
   ·intro _
    repeat refine c_r ?_
    refine rq ?_;intro gd K hgd hK
    try simp only[go_sem]
    refine⟨by kernel_rfl,?_⟩
    rw[show bdV Tryz.prog 31 [(0,vi 6)]=some (.agg #[vi 6,.slice Option.none 0 0,.slice Option.none 0 0,.bool false,.slice Option.none 0 0]) from by kernel_rfl]
    try simp only[go_sem]
    refine zaE (P:=Tryz.prog) (t:=31) (l:=[vi 6,.slice Option.none 0 0,.slice Option.none 0 0,.bool false,.slice Option.none 0 0]) hC3 rfl (fun v h=>by simp at h;rcases h with rfl|rfl|rfl|rfl|rfl<;>rfl) rfl rfl ?_
    intro z hz' hbz hkz
    try simp only[go_sem]
    refine hK _ _ ?_;clear hK hgd;clear K;try clear gd
    repeat refine c_r ?_
    refine zay (.inr rfl) Tryz.ntmps62 rfl (zaL (x:=⟨w.heap.size+1,0,Option.none⟩) (k:=5) (vq0) rfl rfl (zah hbz rfl) (zar (v:= .bool true) (vr0) zau)) ?_
    exact⟨Keep.to_ext (hEw2.trans hE3) rfl (fun b hb=>by omega) hkz,_,by rw[hren];rfl,by rw[hren];exact⟨_,_,_,rfl,Rows.nil _ _ _,BlkB.nil,.inr (za7 _),Rows.nil _ _ _,BlkB.nil⟩⟩
   ·intro h;simp at h
 ·have hnil:datC R n 39=[]:=by simpa using hne
  have hren:zaG R q n=Option.none:=by unfold zaG;rw[if_pos hnil]
  rw[decide_eq_false hne]at hbb
  subst hbb
  refine zaB (t:=true) (vq0) ?_ (fun h=>by cases h)
  intro _
  repeat refine c_r ?_
  refine rq ?_;intro gd K hgd hK
  try simp only[go_sem]
  refine⟨by kernel_rfl,?_⟩
  rw[show bdV Tryz.prog 31 []=some (.agg #[vi 0,.slice Option.none 0 0,.slice Option.none 0 0,.bool false,.slice Option.none 0 0]) from by kernel_rfl]
  try simp only[go_sem]
  refine zaE (P:=Tryz.prog) (t:=31) (l:=zR) hC2 rfl (fun v h=>by simp at h;rcases h with rfl|rfl|rfl|rfl|rfl<;>rfl) rfl rfl ?_
  intro z hz' hbz hkz
  try simp only[go_sem]
  refine hK _ _ ?_;clear hK hgd;clear K;try clear gd
  repeat refine c_r ?_
  refine zay (.inr rfl) Tryz.ntmps62 rfl (zaL (x:=⟨w.heap.size+1,0,Option.none⟩) (k:=5) (vq0) rfl rfl (zah hbz rfl) (zar (v:= .bool false) (vr0) zau)) ?_
  exact⟨Keep.to_ext hEw2 rfl (fun b hb=>by omega) hkz,_,by rw[hren];rfl,by rw[hren];exact⟨_,_,_,rfl,Rows.nil _ _ _,BlkB.nil,.inr (za7 _),Rows.nil _ _ _,BlkB.nil⟩⟩
set_option maxHeartbeats 1000000 in
theorem At_ok{w0 w:World}{ov lv nv:Value}{o n:Nm}{R:List RecL}{t:Int}{wild:Bool}(hz:ZnAt w0 w ov lv o R)(hR:zdw R)(hn:Row w nv (n.map vs))(mn:NmS n):
  Fn Tryz.prog 64 #[.agg #[ov,lv],nv,vi t,.bool wild] w (fun v w'=>Ext w w'∧∃cs,v= .agg cs.toArray∧ResB w0 w.heap.size w' cs (atL R n t wild)):=by
 obtain⟨ao,co,hov,_⟩:=id hz.org
 obtain⟨al,cl,hlv,_⟩:=hz.recs.open
 rw[hov,hlv]
 refine enter Tryz.func64 Tryz.ntmps64 rfl rfl ?_
 repeat refine c_r ?_
 refine rg0 ?_
 repeat refine c_r ?_
 rw[←hov,←hlv]
 rw[zam]
 refine zaH ?_
 intro w1 hE1 hs1 hA hC
 have p1:zaf w1 (some ⟨w.heap.size,1,Option.none⟩)=some lv:=zac hA rfl
 have hz1:=hz.ext hE1
 refine rq ?_;intro gd K hgd hK
 try simp (disch:=first|omega|assumption|rfl) only[go_sem,p1,Nat.zero_add]
 refine Fn.mono (Of_ok hz1.e0 hz1.recs (hn.ext hE1) mn.lb (by have:=mn.len;omega) hz.ok hz.rl) ?_
 rintro _ w2 ⟨hE2,ow,ty,tl,dv,rfl,how,hty,hdv,hdb⟩
 have hdd:(ofC R n t).map RecL.dat=datC R n t:=rfl
 rw[hdd]at hdv
 obtain⟨bb,hbb⟩:∃bb:Bool,decide (datC R n t≠ [])=bb:=⟨_,rfl⟩
 rw[show decide (ofC R n t≠ [])=bb from by rw[←hbb];exact decide_eq_decide.2 (zgF (R:=R) (n:=n) (t:=t))]
 try simp only[go_sem]
 have hB3:=zaw w2 (.cells #[.slice Option.none 0 0,vi 0,v32 0,.slice Option.none 0 0] 209 (0,0))
 have hE4:=Ext.alloc w2 (.cells #[.slice Option.none 0 0,vi 0,v32 0,.slice Option.none 0 0] 209 (0,0))
 have hs4:=zam w2 (.cells #[.slice Option.none 0 0,vi 0,v32 0,.slice Option.none 0 0] 209 (0,0))
 revert hB3 hE4 hs4
 generalize w2.alloc (.cells #[.slice Option.none 0 0,vi 0,v32 0,.slice Option.none 0 0] 209 (0,0))=w3
 intro hB3 hE4 hs4
 obtain⟨ad,cd,hdv',hcd,_⟩:=hdv.open
 refine zaE (P:=Tryz.prog) (t:=209) (l:=[ow,vi ty,v32 tl,dv]) hB3 rfl (fun v h=>by
  simp at h
  rcases h with rfl|rfl|rfl|rfl
  ·exact how
  ·rfl
  ·rfl
  ·rw[hdv'];rfl) rfl rfl ?_
 intro w4 hs5 hB5 hk5
 try simp only[go_sem]
 refine hK _ _ ?_;clear hK hgd;clear K;try clear gd
 have hE5:Ext w2 w4:=Keep.to_ext hE4 rfl (fun b hb=>by omega) hk5
 have hE14:=hE2.trans hE5
 have hEw4:=hE1.trans hE14
 have q3:zaf w4 (some ⟨w2.heap.size,3,Option.none⟩)=some dv:=zcl hB5 rfl
 have hdv4:=hdv.ext hE5
 have hdb4:BlkB w1.heap.size w4 dv:=hdb.ext hE5.size
 have hA4:=Ext.at hE14 hA
 have hC4:=Ext.at hE14 hC
 have e2:=hE14.size
 clear hB3 hE4 hs4 hk5 hs5
 repeat refine c_r ?_
 refine rg0 ?_
 repeat refine c_r ?_
 by_cases hne:datC R n t≠ []
 ·rw[decide_eq_true hne]at hbb
  subst hbb
  have hat:atL R n t wild=⟨1,datC R n t,[],wild,[]⟩:=by unfold atL;rw[if_pos hne]
  refine zaB (t:=true) (vq0) ?_ (fun h=>by cases h)
  intro _
  repeat refine c_r ?_
  refine rq ?_;intro gd K hgd hK
  try simp (disch:=first|omega|assumption|rfl) only[go_sem,q3,Nat.zero_add]
  rw[hdv']
  refine⟨by kernel_rfl,?_⟩
  rw[show bdV Tryz.prog 31 [(0,vi 1),(1,.slice ad (datC R n t).length cd),(3,.bool wild)]=some (.agg #[vi 1,.slice ad (datC R n t).length cd,.slice Option.none 0 0,.bool wild,.slice Option.none 0 0]) from by kernel_rfl]
  try simp only[go_sem]
  refine zaE (P:=Tryz.prog) (t:=31) (l:=[vi 1,.slice ad (datC R n t).length cd,.slice Option.none 0 0,.bool wild,.slice Option.none 0 0]) hC4 rfl (fun v h=>by simp at h;rcases h with rfl|rfl|rfl|rfl|rfl<;>rfl) rfl rfl ?_
  intro z hz' hbz hkz
  try simp only[go_sem]
  refine hK _ _ ?_;clear hK hgd;clear K;try clear gd
  repeat refine c_r ?_
  refine zay (.inr rfl) Tryz.ntmps64 rfl (zaL (x:=⟨w.heap.size+1,0,Option.none⟩) (k:=5) (vq0) rfl rfl (zah hbz rfl) zau) ?_
  refine⟨Keep.to_ext hEw4 rfl (fun b hb=>by omega) hkz,_,rfl,?_⟩
  rw[hat]
  refine⟨_,_,_,rfl,?_,?_,.inr (za7 _),Rows.nil _ _ _,BlkB.nil⟩
  ·rw[←hdv']
   exact hdv4.keep hkz hdb4 (fun b hb _=>by omega)
  ·rw[←hdv']
   exact(hdb4.ext (by omega)).mono (by omega)
 ·have hnil:datC R n t=[]:=by simpa using hne
  rw[decide_eq_false hne]at hbb
  subst hbb
  refine zaB (t:=false) (vq0) (fun h=>by cases h) ?_
  intro _
  have d2:=zah (n:=2) (l:=[ov,lv]) hA4 rfl
  have hz4:=hz.ext hEw4
  repeat refine c_r ?_
  refine rq ?_;intro gd K hgd hK
  try simp (disch:=first|omega|assumption|rfl) only[go_sem,d2]
  refine Fn.mono (zje hz4 hR (hn.ext hEw4) mn) ?_
  rintro _ w5 ⟨hE6,fv,tv,rfl,hfv,hfb,htv⟩
  obtain⟨b5,hb5⟩:∃bb:Bool,decide (datC R n 5≠ [])=bb:=⟨_,rfl⟩
  rw[hb5]
  try simp only[go_sem]
  refine hK _ _ ?_;clear hK hgd;clear K;try clear gd
  have hC5:=Ext.at hE6 hC4
  have e6:=hE6.size
  have hEw5:=hEw4.trans hE6
  repeat refine c_r ?_
  refine rg0 ?_
  repeat refine c_r ?_
  by_cases hne5:datC R n 5≠ []
  ·rw[decide_eq_true hne5]at hb5
   subst hb5
   obtain⟨af,cf,hfv',_⟩:=hfv.open
   obtain⟨at1,ct1,htv',_⟩:=id htv
   have hat:atL R n t wild=⟨5,(datC R n 5).take 1,toN 5 ((datC R n 5).take 1),wild,[]⟩:=by unfold atL;rw[if_neg hne,if_pos hne5]
   refine zaB (t:=true) (vq0) ?_ (fun h=>by cases h)
   intro _
   repeat refine c_r ?_
   refine rq ?_;intro gd K hgd hK
   try simp only[go_sem]
   rw[hfv',htv']
   refine⟨by kernel_rfl,?_⟩
   rw[show bdV Tryz.prog 31 [(0,vi 5),(2,.slice at1 ((toN 5 ((datC R n 5).take 1)).map vs).length ct1),(1,.slice af ((datC R n 5).take 1).length cf),(3,.bool wild)]=some (.agg #[vi 5,.slice af ((datC R n 5).take 1).length cf,.slice at1 ((toN 5 ((datC R n 5).take 1)).map vs).length ct1,.bool wild,.slice Option.none 0 0]) from by kernel_rfl]
   try simp only[go_sem]
   refine zaE (P:=Tryz.prog) (t:=31) (l:=[vi 5,.slice af ((datC R n 5).take 1).length cf,.slice at1 ((toN 5 ((datC R n 5).take 1)).map vs).length ct1,.bool wild,.slice Option.none 0 0]) hC5 rfl (fun v h=>by simp at h;rcases h with rfl|rfl|rfl|rfl|rfl<;>rfl) rfl rfl ?_
   intro z hz' hbz hkz
   try simp only[go_sem]
   refine hK _ _ ?_;clear hK hgd;clear K;try clear gd
   repeat refine c_r ?_
   refine zay (.inr rfl) Tryz.ntmps64 rfl (zaL (x:=⟨w.heap.size+1,0,Option.none⟩) (k:=5) (vq0) rfl rfl (zah hbz rfl) zau) ?_
   have hEz:Ext w z:=Keep.to_ext hEw5 rfl (fun b hb=>by omega) hkz
   refine⟨hEz,_,rfl,?_⟩
   rw[hat]
   refine⟨_,_,_,rfl,?_,?_,.inr ?_,Rows.nil _ _ _,BlkB.nil⟩
   ·rw[←hfv']
    exact hfv.keep hkz hfb (fun b hb _=>by omega)
   ·rw[←hfv']
    exact(hfb.ext (by omega)).mono (by omega)
   ·rw[←htv']
    exact htv
  ·rw[decide_eq_false hne5]at hb5
   subst hb5
   have hat:atL R n t wild=⟨2,[],[],wild,[]⟩:=by unfold atL;rw[if_neg hne,if_neg hne5]
   refine zaB (t:=false) (vq0) (fun h=>by cases h) ?_
   intro _
   repeat refine c_r ?_
   refine rq ?_;intro gd K hgd hK
   try simp only[go_sem]
   refine⟨by kernel_rfl,?_⟩
   rw[show bdV Tryz.prog 31 [(0,vi 2),(3,.bool wild)]=some (.agg #[vi 2,.slice Option.none 0 0,.slice Option.none 0 0,.bool wild,.slice Option.none 0 0]) from by kernel_rfl]
   try simp only[go_sem]
   refine zaE (P:=Tryz.prog) (t:=31) (l:=[vi 2,.slice Option.none 0 0,.slice Option.none 0 0,.bool wild,.slice Option.none 0 0]) hC5 rfl (fun v h=>by simp at h;rcases h with rfl|rfl|rfl|rfl|rfl<;>rfl) rfl rfl ?_
   intro z hz' hbz hkz
   try simp only[go_sem]
   refine hK _ _ ?_;clear hK hgd;clear K;try clear gd
   repeat refine c_r ?_
   refine zay (.inr rfl) Tryz.ntmps64 rfl (zaL (x:=⟨w.heap.size+1,0,Option.none⟩) (k:=5) (vq0) rfl rfl (zah hbz rfl) zau) ?_
   refine⟨Keep.to_ext hEw5 rfl (fun b hb=>by omega) hkz,_,rfl,?_⟩
   rw[hat]
   exact⟨_,_,_,rfl,Rows.nil _ _ _,BlkB.nil,.inr (za7 _),Rows.nil _ _ _,BlkB.nil⟩
def goL(o:Nm)(R:List RecL)(q:Nm):List Nm→Option ResL
 | []=>Option.none
 |n::l=>if cutP o R n=true then some (zeu R n) else if n.length=q.length then Option.none else match zaG R q n with
  |some r=>some r
  |Option.none=>goL o R q l
def za3(o:Nm)(R:List RecL)(q:Nm)(t:Int):ResL:=
 if zaY q o=false then⟨7,[],[],false,[]⟩ else match goL o R q (za8 o q) with
 |some r=>r
 |Option.none=>if zaM o R q=true then atL R q t false else match zaZ o R q with
  |some s=>atL R s t true
  |Option.none=>⟨3,[],[],false,[]⟩
def passL(o:Nm)(R:List RecL)(q n:Nm):Prop:=cutP o R n=false∧n.length≠q.length∧zaG R q n=Option.none
theorem zeP{o:Nm}{R:List RecL}{q:Nm}:∀{pre l:List Nm},(∀n∈pre,passL o R q n)→goL o R q (pre++l)=goL o R q l
 | [],_,_=>rfl
 |n::pre,l,h=>by
  obtain⟨h1,h2,h3⟩:=h n (List.mem_cons_self ..)
  rw[List.cons_append]
  simp only[goL]
  rw[h1,if_neg Bool.false_ne_true,if_neg h2,h3]
  exact zeP (fun m hm=>h m (List.mem_cons_of_mem _ hm))
theorem zgR{o:Nm}{R:List RecL}{n:Nm}:zeY o R n=0↔zaY n o=false:=by
 unfold zeY
 by_cases h:zaY n o=true
 ·rw[if_pos h,h]
  constructor
  ·intro h2
   split at h2
   ·cases h2
   ·split at h2<;>cases h2
  ·intro h2;cases h2
 ·rw[if_neg h]
  simp at h
  simp[h]
theorem zfS{q:Nm}{k:Nat}(hk:k≤q.length):zaY q (q.drop k)=true:=by
 unfold zaY
 rw[Bool.and_eq_true,decide_eq_true_eq,decide_eq_true_eq]
 refine⟨by simp,?_⟩
 rw[List.length_drop,show q.length - (q.length - k)=k from by omega]
theorem NmM.drop{n:Nm}(h:NmM n)(k:Nat):NmM (n.drop k):=⟨fun l hl=>h.lb l (List.drop_subset _ _ hl),by have:=h.len;simp;omega⟩
set_option maxHeartbeats 1000000 in
theorem Zone_ok{w0 w:World}{ov lv qv:Value}{o q:Nm}{R:List RecL}{t:Int}(hz:ZnAt w0 w ov lv o R)(hR:zdw R)(hq:Row w qv (q.map vs))(mq:NmM q):
  Fn Tryz.prog 18 #[.agg #[ov,lv],qv,vi t] w (fun v w'=>Ext w w'∧∃cs,v= .agg cs.toArray∧ResB w0 w.heap.size w' cs (za3 o R q t)):=by
 obtain⟨ao,co,hov,_⟩:=id hz.org
 obtain⟨al,cl,hlv,_⟩:=hz.recs.open
 obtain⟨aq,cq,hqv,_⟩:=id hq
 rw[List.length_map]at hov hqv
 rw[hov,hlv,hqv]
 refine enter Tryz.func18 Tryz.ntmps18 rfl rfl ?_
 repeat refine c_r ?_
 refine rg0 ?_
 repeat refine c_r ?_
 rw[←hov,←hlv,←hqv]
 simp only[zam]
 refine zdt ?_
 intro w1 hE1 hs1 hA hB hC
 have d2:=zah (n:=2) (l:=[ov,lv]) hA rfl
 have dq:zaf w1 (some ⟨w.heap.size+1,0,Option.none⟩)=some qv:=zac hB rfl
 have hz1:=hz.ext hE1
 have ql:=mq.len
 have hqo:(q.map vs).length=q.length:=List.length_map ..
 refine rq ?_;intro gd K hgd hK
 try simp (disch:=first|omega|assumption|rfl) only[go_sem,d2,dq]
 refine Fn.mono (Where_ok hz1 (hq.ext hE1) mq.s) ?_
 rintro _ w2 ⟨rfl,hE2⟩
 try simp only[go_sem]
 refine hK _ _ ?_;clear hK hgd;clear K;try clear gd
 have hEw2:=hE1.trans hE2
 have hA2:=hE2.at hA
 have hB2:=hE2.at hB
 have hC2:=hE2.at hC
 have s2:=hE2.size
 -- a result into its variable,and the end
 repeat refine c_r ?_
 refine wc0 ?_ ?_
 ·intro hw
  simp only[decide_eq_true_eq]at hw
  have hu:=zgR.1 hw
  have hlk:za3 o R q t=⟨7,[],[],false,[]⟩:=by unfold za3;rw[if_pos hu]
  repeat refine c_r ?_
  refine rq ?_;intro gd K hgd hK
  try simp only[go_sem]
  refine⟨by kernel_rfl,?_⟩
  rw[show bdV Tryz.prog 31 [(0,vi 7)]=some (.agg #[vi 7,.slice Option.none 0 0,.slice Option.none 0 0,.bool false,.slice Option.none 0 0]) from by kernel_rfl]
  try simp only[go_sem]
  refine zaE (P:=Tryz.prog) (t:=31) (l:=[vi 7,.slice Option.none 0 0,.slice Option.none 0 0,.bool false,.slice Option.none 0 0]) hC2 rfl (fun v h=>by simp at h;rcases h with rfl|rfl|rfl|rfl|rfl<;>rfl) rfl rfl ?_
  intro z hz' hbz hkz
  try simp only[go_sem]
  refine hK _ _ ?_;clear hK hgd;clear K;try clear gd
  repeat refine c_r ?_
  refine zay (.inr rfl) Tryz.ntmps18 rfl (zaL (x:=⟨w.heap.size+1+1,0,Option.none⟩) (k:=5) (vq0) rfl rfl (zah hbz rfl) zau) ?_
  exact⟨Keep.to_ext hEw2 rfl (fun b hb=>by omega) hkz,_,rfl,by rw[hlk];exact⟨_,_,_,rfl,Rows.nil _ _ _,BlkB.nil,.inr (za7 _),Rows.nil _ _ _,BlkB.nil⟩⟩
 intro hw
 simp only[decide_eq_false_iff_not]at hw
 have hu:zaY q o=true:=by
  cases h:zaY q o with
  |true=>rfl
  |false=>exact absurd (zgR.2 h) hw
 have d2':=zah (n:=2) (l:=[ov,lv]) hA2 rfl
 have dq':zaf w2 (some ⟨w.heap.size+1,0,Option.none⟩)=some qv:=zac hB2 rfl
 repeat refine c_r ?_
 refine rq ?_;intro gd K hgd hK
 try simp (disch:=first|omega|assumption|rfl) only[go_sem,d2',dq']
 refine Fn.mono (ziv ⟨_,_,_,hqv⟩) ?_
 rintro _ w3 ⟨rfl,hE3,hs3,hbz,hbn⟩
 try simp only[go_sem]
 refine hK _ _ ?_;clear hK hgd;clear K;try clear gd
 have hEw3:=hEw2.trans hE3
 have hz3:=hz.ext hEw3
 have hq3:=hq.ext hEw3
 have hA3:=hE3.at hA2
 have hB3:=hE3.at hB2
 have hC3:=hE3.at hC2
 obtain⟨D,hD⟩:∃D,w3.heap.size=D:=⟨_,rfl⟩
 have hdm:∀{x},x∈za8 o q→∃k,k≤q.length∧x=q.drop k:=fun {x} hx=>by
  unfold za8 at hx
  split at hx
  ·obtain⟨i,hi,h⟩:=zbH.1 hx
   exact⟨i,by omega,h⟩
  ·cases hx
 repeat refine c_r ?_
 refine zaC (Q:=fun e σ' ds' v'=>((e= .normal∨e= .exit 0)∧ds'=[{target:= .collected w3.heap.size,args:=#[]}]∧v'.heap[w3.heap.size]? =some (.deferred (some []))∧σ' 3= .pointer (some ⟨w.heap.size,0,Option.none⟩)∧σ' 4= .pointer (some ⟨w.heap.size+1,0,Option.none⟩)∧σ' 6= .pointer (some ⟨w.heap.size+1+1,0,Option.none⟩)∧σ' 2=vi t∧Ext w3 v'∧goL o R q (za8 o q)=Option.none)∨
   (e= .ret∧ds'=[{target:= .collected w3.heap.size,args:=#[]}]∧v'.heap[w3.heap.size]? =some (.deferred (some []))∧σ' 6= .pointer (some ⟨w.heap.size+1+1,0,Option.none⟩)∧Ext w v'∧∃r cs,goL o R q (za8 o q)=some r∧v'.heap[w.heap.size+1+1]? =some (.cells cs.toArray 31 (0,0))∧ResB w0 (w3.heap.size+2) v' cs r)) ?_ ?_
 ·refine zdH (g:=125) (cap:=#[.pointer (some ⟨w2.heap.size+1,0,Option.none⟩),.pointer (some ⟨w2.heap.size,0,Option.none⟩)]) (vq0) rfl (zlj (C:=fun b=>b=w.heap.size+1+1) hbn hbz hq hz3.org (by omega) (by omega) hz.ol (by omega)) (Keep.refl _ _) (Nat.le_refl _) (fun b hb=>by omega)
   (fun x B args h=>by obtain⟨v,h,_⟩:=h;rw[h];rfl)
   (fun pre B=>Ext w3 B∧∀x∈pre,passL o R q x)
   (fun c pre B=>(c= .exit 0∧Ext w3 B∧∃pre' x,pre=pre'++ [x]∧(∀y∈pre',passL o R q y)∧cutP o R x=false∧x.length=q.length)∨
    (c= .ret∧Ext w B∧∃pre' x r cs,pre=pre'++ [x]∧(∀y∈pre',passL o R q y)∧(∀l,goL o R q (x::l)=some r)∧B.heap[w.heap.size+1+1]? =some (.cells cs.toArray 31 (0,0))∧ResB w0 (w3.heap.size+2) B cs r)) ?_ ?_ ?_ ?_ ?_ ?_
  ·rintro pre B B' ⟨hEB,hp⟩ hk
   exact⟨Keep.to_ext hEB rfl (fun b hb=>by unfold two at hb;omega) hk,hp⟩
  ·rintro c pre B B' h hk
   rcases h with ⟨rfl,hEB,h⟩| ⟨rfl,hEB,pre',x,r,cs,h1,h2,h3,h4,h5⟩
   ·exact .inl ⟨rfl,Keep.to_ext hEB rfl (fun b hb=>by unfold two at hb;omega) hk,h⟩
   ·exact .inr ⟨rfl,Keep.to_ext hEB rfl (fun b hb=>by unfold two at hb;omega) hk,pre',x,r,cs,h1,h2,h3,(hk.block _ (Array.getElem?_eq_some_iff.1 h4).1 (by unfold two;omega)).trans h4,h5.keep hk (fun b hb _=>by unfold two;omega)⟩
  ·exact⟨Keep.refl _ _,fun x h=>absurd h (by simp)⟩
  ·rintro lp pre x suf B args hxs hszB ⟨hEB,hp⟩ ⟨xv,rfl,hxr⟩
   obtain⟨kx,hkx,hxk⟩:=hdm (x:=x) (by rw[hxs];simp)
   have mx:NmM x:=hxk▸mq.drop kx
   have hux:zaY q x=true:=by rw[hxk];exact zfS hkx
   have hxl:=mx.len
   obtain⟨ax,cx,hxv,_⟩:=id hxr
   rw[List.length_map]at hxv
   have hol:=hz.ol
   refine rq ?_;intro gd K hgd hK
   try simp only[go_sem]
   refine hK _ _ ?_;clear hK hgd;clear K;try clear gd
   refine zav ?_
   refine⟨rfl,KeepB.refl _ _ _,fun Y hY=>?_⟩
   have hEY:Ext w3 Y:=Keep.to_ext hEB rfl (fun b hb=>by unfold two at hb;omega) hY
   have hzY:=hz3.ext hEY
   have p0:zaf Y (some ⟨w.heap.size,0,Option.none⟩)=some ov:=zac (hEY.at hA3) rfl
   have d2:=zah (n:=2) (l:=[ov,lv]) (hEY.at hA3) rfl
   have dq:zaf Y (some ⟨w.heap.size+1,0,Option.none⟩)=some qv:=zac (hEY.at hB3) rfl
   have hYs:=hY.size
   have hxY:Row Y xv (x.map vs):=hxr.ext (hEw3.trans hEY)
   have hqY:=hq3.ext hEY
   have hCY:=hEY.at hC3
   rw[hov]at p0
   repeat refine c_r ?_
   refine zaC (Q:=fun e σ' ds' v'=>e= .normal∧ds'=[]∧σ' 7=xv∧σ' 3= .pointer (some ⟨w.heap.size,0,Option.none⟩)∧σ' 4= .pointer (some ⟨w.heap.size+1,0,Option.none⟩)∧σ' 6= .pointer (some ⟨w.heap.size+1+1,0,Option.none⟩)∧Ext Y v'∧σ' 31= .bool (cutP o R x)) ?_ ?_
   ·by_cases hl:(o.length:Int)<(x.length:Int)
    ·refine rq ?_;intro gd K hgd hK
     have hg6:∀n σ b,zas gd n σ (some (6,b))=zal (ev n σ (.tmp 27)) b:=(fun n σ b=>by rw[zad,show gd 6=some 27 from(by rw[hgd];rfl)];rfl)
     try simp (disch:=first|omega|assumption|rfl) only[go_sem,hxv,p0,d2,decide_eq_true hl,Nat.add_zero,↓hg6]
     rw[←hxv]
     refine Fn.mono (Has_ok hzY hxY mx.s) ?_
     rintro _ Y2 ⟨rfl,hY2⟩
     try simp only[go_sem]
     refine hK _ _ ?_;clear hK hgd;clear K;try clear gd
     refine⟨rfl,rfl,vq0,vq0,vq0,vq0,hY2,?_⟩
     unfold cutP hasL
     rw[show decide (o.length<x.length)=true from decide_eq_true (by omega),Bool.true_and]
     simp only[go_sem]
    ·refine rq ?_;intro gd K hgd hK
     have hg6:∀n σ b,zas gd n σ (some (6,b))=zal (ev n σ (.tmp 27)) b:=(fun n σ b=>by rw[zad,show gd 6=some 27 from(by rw[hgd];rfl)];rfl)
     try simp (disch:=first|omega|assumption|rfl) only[go_sem,hxv,p0,decide_eq_false hl,Nat.add_zero,↓hg6]
     rw[←hxv]
     refine hK _ _ ?_;clear hK hgd;clear K;try clear gd
     refine⟨rfl,rfl,vq0,vq0,vq0,vq0,Keep.refl _ _,?_⟩
     unfold cutP hasL
     rw[show decide (o.length<x.length)=false from decide_eq_false (by omega),Bool.false_and]
     simp only[go_sem]
   rintro _ σ1 _ Y1 ⟨rfl,rfl,h7,h3,h4,h6,hY1,h31⟩
   have hEY1:=hEY.trans hY1
   have hY1s:=hY1.size
   repeat refine c_r ?_
   refine zaB (t:=cutP o R x) ((vq1 h31)) ?_ ?_
   ·intro ht
    have d2':=zae hY1 d2
    repeat refine c_r ?_
    refine rq ?_;intro gd K hgd hK
    try simp (disch:=first|omega|assumption|rfl) only[go_sem,h3,h7,d2']
    refine Fn.mono (Refer_ok (hzY.ext hY1) hR (hxY.ext hY1) mx.s) ?_
    rintro _ Y2 ⟨hY2,cs,rfl,hres⟩
    try simp (disch:=first|omega|assumption|rfl) only[go_sem,h6]
    have hY2s:=hY2.size
    refine zaE (P:=Tryz.prog) (t:=31) (l:=cs) (Ext.at (hY1.trans hY2) hCY) hres.cells.1 hres.cells.2 (by rw[hres.cells.1];rfl) rfl ?_
    intro z hz' hbz2 hkz
    try simp only[go_sem]
    refine hK _ _ ?_;clear hK hgd;clear K;try clear gd
    repeat refine c_r ?_
    exact⟨.inr ⟨rfl,Keep.to_ext (hEw3.trans (hEY1.trans hY2)) rfl (fun b hb=>by omega) hkz,pre,x,zeu R x,cs,rfl,hp,fun l=>by simp only[goL];rw[if_pos ht],hbz2,(hres.keep hkz (fun b hb _=>by omega)).mono (by omega)⟩,((hY1.trans hY2).toB (by omega) (fun _ _ h=>h.elim)).trans (hkz.toB (by omega) (fun i _ h=>h))⟩
   intro ht
   have dq':=zab hY1 dq
   rw[hqv]at dq'
   repeat refine c_r ?_
   refine rg4 h7 h4 hxv dq' ?_
   repeat refine c_r ?_
   refine wc0 ?_ ?_
   ·intro hl
    simp only[decide_eq_true_eq]at hl
    repeat refine c_r ?_
    exact⟨.inl ⟨rfl,hEY1,pre,x,rfl,hp,ht,by omega⟩,hY1.toB (by omega) (fun _ _ h=>h.elim)⟩
   intro hl
   simp only[decide_eq_false_iff_not]at hl
   have d2':=zae hY1 d2
   have dq'':=zab hY1 dq
   repeat refine c_r ?_
   refine rq ?_;intro gd K hgd hK
   try simp (disch:=first|omega|assumption|rfl) only[go_sem,h3,h4,h7,d2',dq'']
   refine Fn.mono (zjN (hzY.ext hY1) hR (hqY.ext hY1) (hxY.ext hY1) mq mx hux) ?_
   rintro _ Y2 ⟨hY2,cs,rfl,hres⟩
   try simp only[go_sem]
   have hB8:=zaw Y2 (.cells #[vi 0,.slice Option.none 0 0,.slice Option.none 0 0,.bool false,.slice Option.none 0 0] 31 (0,0))
   have hE8:=Ext.alloc Y2 (.cells #[vi 0,.slice Option.none 0 0,.slice Option.none 0 0,.bool false,.slice Option.none 0 0] 31 (0,0))
   have hs8:=zam Y2 (.cells #[vi 0,.slice Option.none 0 0,.slice Option.none 0 0,.bool false,.slice Option.none 0 0] 31 (0,0))
   revert hB8 hE8 hs8
   generalize Y2.alloc (.cells #[vi 0,.slice Option.none 0 0,.slice Option.none 0 0,.bool false,.slice Option.none 0 0] 31 (0,0))=Y3
   intro hB8 hE8 hs8
   refine zaE (P:=Tryz.prog) (t:=31) (l:=cs) hB8 hres.cells.1 hres.cells.2 (by rw[hres.cells.1];rfl) rfl ?_
   intro Y4 hs9 hB9 hk9
   try simp only[go_sem]
   refine hK _ _ ?_;clear hK hgd;clear K;try clear gd
   have hE24:Ext Y2 Y4:=Keep.to_ext hE8 rfl (fun b hb=>by omega) hk9
   have hY4:=hY2.trans hE24
   have hY4s:=hY4.size
   have hres4:=hres.keep hE24 (fun b hb _ h=>h)
   have d9:=zah (n:=5) hB9 hres.cells.1.symm
   repeat refine c_r ?_
   refine rg0 ?_
   repeat refine c_r ?_
   refine zaB (t:=(zaG R q x).isSome) (vq0) ?_ ?_
   ·intro hs
    obtain⟨r,hr⟩:=Option.isSome_iff_exists.1 hs
    rw[hr]at hres4
    repeat refine c_r ?_
    refine rq ?_;intro gd K hgd hK
    try simp (disch:=first|omega|assumption|rfl) only[go_sem,d9,h6]
    refine zaE (P:=Tryz.prog) (t:=31) (l:=cs) (Ext.at (hY1.trans hY4) hCY) hres.cells.1 hres.cells.2 (by rw[hres.cells.1];rfl) rfl ?_
    intro z hz' hbz2 hkz
    try simp only[go_sem]
    refine hK _ _ ?_;clear hK hgd;clear K;try clear gd
    repeat refine c_r ?_
    exact⟨.inr ⟨rfl,Keep.to_ext (hEw3.trans (hEY1.trans hY4)) rfl (fun b hb=>by omega) hkz,pre,x,r,cs,rfl,hp,fun l=>by simp only[goL];rw[ht,if_neg Bool.false_ne_true,if_neg (by omega),hr],hbz2,(hres4.keep hkz (fun b hb _=>by omega)).mono (by omega)⟩,((hY1.trans hY4).toB (by omega) (fun _ _ h=>h.elim)).trans (hkz.toB (by omega) (fun i _ h=>h))⟩
   ·intro hs
    have hnone:zaG R q x=Option.none:=by simpa using hs
    repeat refine c_r ?_
    refine⟨⟨hEY1.trans hY4,fun y hy=>?_⟩,(hY1.trans hY4).toB (by omega) (fun _ _ h=>h.elim)⟩
    rcases List.mem_append.1 hy with hy|hy
    ·exact hp y hy
    ·rw[List.mem_singleton.1 hy];exact⟨ht,by omega,hnone⟩
  ·intro B hszB ⟨hEB,hp⟩ hDB
   refine .inl ⟨.inl rfl,rfl,hDB,vq0,vq0,vq0,vq0,hEB,?_⟩
   have:=zeP (l:=[]) hp
   rw[List.append_nil]at this
   rw[this];rfl
  ·rintro c pre x0 suf B hszB hxs h hDB
   rcases h with ⟨rfl,hEB,pre',x,hpre,h1,h2,h3⟩| ⟨rfl,hEB,pre',x,r,cs,hpre,h1,h2,h3,h4⟩
   ·obtain⟨rfl,h5⟩:=List.append_inj' hpre rfl
    have hx0:x0=x:=by simpa using h5
    subst hx0
    refine zfC ?_
    refine .inl ⟨.inr rfl,rfl,hDB,vq0,vq0,vq0,vq0,hEB,?_⟩
    rw[hxs,zeP h1]
    simp only[goL]
    rw[h2,if_neg Bool.false_ne_true,if_pos h3]
   ·obtain⟨rfl,h5⟩:=List.append_inj' hpre rfl
    have hx0:x0=x:=by simpa using h5
    subst hx0
    refine zjL ?_
    refine .inr ⟨rfl,rfl,hDB,vq0,hEB,r,cs,?_,h3,h4⟩
    rw[hxs,zeP h1,h2]
 ·intro e σ1 ds1 v1 hcase
  rcases hcase with ⟨he,rfl,hDv,h3,h4,h6,h2,hEv,hgo⟩| ⟨rfl,rfl,hDv,h6,hEv,r,cs,hgo,hbv,hres⟩
  ·refine zd5 he ?_
   have hlk:za3 o R q t=if zaM o R q=true then atL R q t false else match zaZ o R q with
     |some s=>atL R s t true
     |Option.none=>⟨3,[],[],false,[]⟩:=by
    unfold za3
    rw[if_neg (by rw[hu];decide),hgo]
   have hEwv:=hEw3.trans hEv
   have hzv:=hz3.ext hEv
   have hqv':=hq3.ext hEv
   have hCv:=Ext.at hEv hC3
   have d2v:=zah (n:=2) (l:=[ov,lv]) (Ext.at hEv hA3) rfl
   have dqv:zaf v1 (some ⟨w.heap.size+1,0,Option.none⟩)=some qv:=zac (Ext.at hEv hB3) rfl
   have hvs:=hEv.size
   have hDlt:w3.heap.size<v1.heap.size:=(Array.getElem?_eq_some_iff.1 hDv).1
   -- a result laid into its variable,and the end
   have fin:∀{Y z:World} {cs:List Value} {r:ResL} {σ':Sto},Ext v1 Y→ResB w0 v1.heap.size Y cs r→r=za3 o R q t→z.heap.size=Y.heap.size→z.heap[w.heap.size+1+1]? =some (.cells cs.toArray 31 (0,0))→Keep (fun i=>i=w.heap.size+1+1) Y z→σ' 6= .pointer (some ⟨w.heap.size+1+1,0,Option.none⟩)→
     z.heap[w3.heap.size]? =some (.deferred (some []))∧∀Z,Keep (fun b=>b=w3.heap.size) z Z→Z.heap.size=z.heap.size→∃rs,resV Tryz.prog 68 σ' Z [.cell 6 31]=some rs∧(Ext w Z∧∃cs,resT rs= .agg cs.toArray∧ResB w0 w.heap.size Z cs (za3 o R q t)):=fun {Y z cs r σ'} hY hres hr hzs hbz hkz h6'=>by
    have hYs:=hY.size
    refine⟨(hkz.block _ (by omega) (by omega)).trans (Ext.at hY hDv),fun Z hkZ hsZ=>⟨_,zaL (x:=⟨w.heap.size+1+1,0,Option.none⟩) (k:=5) ((vq1 h6')) rfl rfl (zah ((hkZ.block _ (by omega) (by omega)).trans hbz) hres.cells.1.symm) zau,?_,_,rfl,?_⟩⟩
    ·exact Keep.to_ext (Keep.to_ext (hEwv.trans hY) rfl (fun b hb=>by omega) hkz) rfl (fun b hb=>by omega) hkZ
    ·rw[←hr]
     exact(((hres.keep hkz (fun b hb _=>by omega)).keep hkZ (fun b hb _=>by omega))).mono (by omega)
   repeat refine c_r ?_
   refine rq ?_;intro gd K hgd hK
   try simp (disch:=first|omega|assumption|rfl) only[go_sem,h3,h4,d2v,dqv]
   refine Fn.mono (zhT hzv hqv' mq.s) ?_
   rintro _ Y1 ⟨rfl,hY1⟩
   try simp only[go_sem]
   refine hK _ _ ?_;clear hK hgd;clear K;try clear gd
   have hzY1:=hzv.ext hY1
   have d2y:=zae hY1 d2v
   have dqy:=zab hY1 dqv
   have hY1s:=hY1.size
   repeat refine c_r ?_
   refine zaB (t:=zaM o R q) (vq0) ?_ ?_
   ·intro hex
    rw[hex,if_pos rfl]at hlk
    repeat refine c_r ?_
    refine rq ?_;intro gd K hgd hK
    try simp (disch:=first|omega|assumption|rfl) only[go_sem,h3,h4,h2,d2y,dqy]
    refine Fn.mono (At_ok hzY1 hR (hqv'.ext hY1) mq.s) ?_
    rintro _ Y2 ⟨hY2,cs,rfl,hres⟩
    try simp (disch:=first|omega|assumption|rfl) only[go_sem,h6]
    have hY2s:=hY2.size
    refine zaE (P:=Tryz.prog) (t:=31) (l:=cs) (Ext.at (hY1.trans hY2) hCv) hres.cells.1 hres.cells.2 (by rw[hres.cells.1];rfl) rfl ?_
    intro z hz' hbz2 hkz
    try simp only[go_sem]
    refine hK _ _ ?_;clear hK hgd;clear K;try clear gd
    repeat refine c_r ?_
    obtain⟨f1,f2⟩:=fin (hY1.trans hY2) (hres.mono hY1s) hlk.symm hz' hbz2 hkz h6
    refine zbW (.inr rfl) Tryz.ntmps18 rfl f1 ?_
    intro Z hkZ hsZ
    exact f2 Z hkZ hsZ
   intro hex
   rw[hex,if_neg Bool.false_ne_true]at hlk
   repeat refine c_r ?_
   refine rq ?_;intro gd K hgd hK
   try simp (disch:=first|omega|assumption|rfl) only[go_sem,h3,h4,d2y,dqy]
   refine Fn.mono (zlz hzY1 (hqv'.ext hY1) mq.s ql) ?_
   rintro _ Y2 ⟨hY2,sv,rfl,hsv⟩
   try simp only[go_sem]
   refine hK _ _ ?_;clear hK hgd;clear K;try clear gd
   have hY2s:=hY2.size
   have hzY2:=hzY1.ext hY2
   have d2z:=zae hY2 d2y
   have dqz:=zab hY2 dqy
   repeat refine c_r ?_
   refine rg0 ?_
   repeat refine c_r ?_
   refine zaB (t:=(zaZ o R q).isSome) (vq0) ?_ ?_
   ·intro hs
    obtain⟨s0,hs0⟩:=Option.isSome_iff_exists.1 hs
    rw[hs0]at hlk hsv
    have hsn:s0=zbq o R q:=by
     unfold zaZ at hs0
     split at hs0
     ·exact(Option.some.inj hs0).symm
     ·cases hs0
    have hss:NmS s0:=by rw[hsn];exact zhY mq.s ql
    repeat refine c_r ?_
    refine rq ?_;intro gd K hgd hK
    try simp (disch:=first|omega|assumption|rfl) only[go_sem,h3,h2,d2z]
    refine Fn.mono (At_ok hzY2 hR hsv hss) ?_
    rintro _ Y3 ⟨hY3,cs,rfl,hres⟩
    try simp (disch:=first|omega|assumption|rfl) only[go_sem,h6]
    have hY3s:=hY3.size
    refine zaE (P:=Tryz.prog) (t:=31) (l:=cs) (Ext.at ((hY1.trans hY2).trans hY3) hCv) hres.cells.1 hres.cells.2 (by rw[hres.cells.1];rfl) rfl ?_
    intro z hz' hbz2 hkz
    try simp only[go_sem]
    refine hK _ _ ?_;clear hK hgd;clear K;try clear gd
    repeat refine c_r ?_
    obtain⟨f1,f2⟩:=fin ((hY1.trans hY2).trans hY3) (hres.mono (by omega)) hlk.symm hz' hbz2 hkz h6
    refine zbW (.inr rfl) Tryz.ntmps18 rfl f1 ?_
    intro Z hkZ hsZ
    exact f2 Z hkZ hsZ
   ·intro hs
    have hs0:zaZ o R q=Option.none:=by simpa using hs
    rw[hs0]at hlk
    repeat refine c_r ?_
    refine rq ?_;intro gd K hgd hK
    try simp (disch:=first|omega|assumption|rfl) only[go_sem,h6]
    refine⟨by kernel_rfl,?_⟩
    rw[show bdV Tryz.prog 31 [(0,vi 3)]=some (.agg #[vi 3,.slice Option.none 0 0,.slice Option.none 0 0,.bool false,.slice Option.none 0 0]) from by kernel_rfl]
    try simp (disch:=first|omega|assumption|rfl) only[go_sem,h6]
    refine zaE (P:=Tryz.prog) (t:=31) (l:=[vi 3,.slice Option.none 0 0,.slice Option.none 0 0,.bool false,.slice Option.none 0 0]) (Ext.at (hY1.trans hY2) hCv) rfl (fun v h=>by simp at h;rcases h with rfl|rfl|rfl|rfl|rfl<;>rfl) rfl rfl ?_
    intro z hz' hbz2 hkz
    try simp only[go_sem]
    refine hK _ _ ?_;clear hK hgd;clear K;try clear gd
    repeat refine c_r ?_
    obtain⟨f1,f2⟩:=fin (r:=⟨3,[],[],false,[]⟩) (hY1.trans hY2) ⟨_,_,_,rfl,Rows.nil _ _ _,BlkB.nil,.inr (za7 _),Rows.nil _ _ _,BlkB.nil⟩ hlk.symm hz' hbz2 hkz h6
    refine zbW (.inr rfl) Tryz.ntmps18 rfl f1 ?_
    intro Z hkZ hsZ
    exact f2 Z hkZ hsZ
  ·have hlk:za3 o R q t=r:=by
    unfold za3
    rw[if_neg (by rw[hu];decide),hgo]
   have hDlt:w3.heap.size<v1.heap.size:=(Array.getElem?_eq_some_iff.1 hDv).1
   repeat refine c_r ?_
   refine zbW (.inr rfl) Tryz.ntmps18 rfl hDv ?_
   intro Z hkZ hsZ
   refine⟨_,zaL (x:=⟨w.heap.size+1+1,0,Option.none⟩) (k:=5) ((vq1 h6)) rfl rfl (zah ((hkZ.block _ (by have:=hE3.size;omega) (by omega)).trans hbv) hres.cells.1.symm) zau,Keep.to_ext hEv rfl (fun b hb=>by omega) hkZ,_,rfl,?_⟩
   rw[hlk]
   exact(hres.keep hkZ (fun b hb _=>by omega)).mono (by omega)
def zbX(R:List RecL)(G:List (Nm×List DatL))(h:Nm):List (Nm×List DatL):=
 if (G.any fun x=>decide (zaX x.1=zaX h))=false∧zbd R h≠ [] then G++ [(h,zbd R h)] else G
def zfg(R:List RecL)(hs:List Nm):List (Nm×List DatL):=hs.foldl (zbX R) []
theorem zeN{R:List RecL}:∀(hs:List Nm) (G:List (Nm×List DatL)) (had:List (List UInt8)),(∀h∈hs,NmG h)→(∀x∈G,zaX x.1∈had)→(∀h,NmG h→zaX h∈had→zbd R h≠ []→(G.any fun x=>decide (zaX x.1=zaX h))=true)→
  hs.foldl (zbX R) G=G++zbx R (za1 had hs)
 | [],G,had,_,_,_=>by simp[za1,zbx]
 |h::hs,G,had,hg,ha,hb=>by
  have h1:=hg h (List.mem_cons_self ..)
  have hg':=fun x hx=>hg x (List.mem_cons_of_mem _ hx)
  rw[List.foldl_cons]
  by_cases hc:zaX h∈had
  ·have e:za1 had (h::hs)=za1 had hs:=by
    rw[za1,if_pos (by simpa using hc)]
   rw[e]
   have e2:zbX R G h=G:=by
    unfold zbX
    rw[if_neg]
    rintro⟨h2,h3⟩
    rw[hb h h1 hc h3]at h2
    cases h2
   rw[e2]
   exact zeN hs G had hg' ha hb
  ·have e:za1 had (h::hs)=h::za1 (zaX h::had) hs:=by
    rw[za1,if_neg (by simpa using hc)]
   rw[e]
   have hno:(G.any fun x=>decide (zaX x.1=zaX h))=false:=by
    rw[List.any_eq_false]
    intro x hx h2
    rw[decide_eq_true_eq]at h2
    exact hc (h2▸ha x hx)
   by_cases hgl:zbd R h=[]
   ·have e2:zbX R G h=G:=by
     unfold zbX
     rw[if_neg (fun h=>h.2 hgl)]
    have e3:zbx R (h::za1 (zaX h::had) hs)=zbx R (za1 (zaX h::had) hs):=by
     unfold zbx
     simp[hgl]
    rw[e2,e3]
    refine zeN hs G (zaX h::had) hg' (fun x hx=>List.mem_cons_of_mem _ (ha x hx)) (fun k hk hm hne=>?_)
    rcases List.mem_cons.1 hm with h2|h2
    ·have:=zjW hk.ne h1.ne h2
     rw[this]at hne
     exact absurd hgl hne
    ·exact hb k hk h2 hne
   ·have e2:zbX R G h=G++ [(h,zbd R h)]:=by
     unfold zbX
     rw[if_pos ⟨hno,hgl⟩]
    have e3:zbx R (h::za1 (zaX h::had) hs)=(h,zbd R h)::zbx R (za1 (zaX h::had) hs):=by
     unfold zbx
     simp[hgl]
    rw[e2,e3,zeN hs (G++ [(h,zbd R h)]) (zaX h::had) hg' ?_ ?_]
    ·simp
    ·intro x hx
     rcases List.mem_append.1 hx with hx|hx
     ·exact List.mem_cons_of_mem _ (ha x hx)
     ·rw[List.mem_singleton.1 hx];exact List.mem_cons_self ..
    ·intro k hk hm hne
     rw[List.any_append]
     rcases List.mem_cons.1 hm with h2|h2
     ·rw[Bool.or_eq_true];right
      simp[h2]
     ·rw[hb k hk h2 hne,Bool.true_or]
theorem hints_is{R:List RecL}{hs:List Nm}(h:∀x∈hs,NmG x):zfg R hs=zbx R (za1 [] hs):=by
 unfold zfg
 rw[zeN hs [] [] h (fun x hx=>by cases hx) (fun k _ hm=>by cases hm)];rfl
theorem zh9(R:List RecL)(hs:List Nm)(h:Nm):zfg R (hs++ [h])=zbX R (zfg R hs) h:=by
 unfold zfg
 rw[List.foldl_append];rfl
structure HI(w0:World)(B:Nat)(A:World)(gv:Value)(G:List GlX):Prop where
 own:Owns 2 glC B A 143 gv G
 row:∀x∈G,Row w0 x.2.1 (x.1.1.map vs)∧Rows 5 (DatAt w0) A x.2.2 x.1.2∧BlkB B A x.2.2∧∀a n c,x.2.2= .slice (some a) n c→some a.block≠gv.ownBlock
 nm:∀x∈G,NmG x.1.1
theorem HI.ext{w0 A A':World}{B:Nat}{gv:Value}{G:List GlX}(h:HI w0 B A gv G)(hE:Ext A A'):HI w0 B A' gv G:=
 ⟨h.own.ext hE,fun x hx=>by
  obtain⟨h1,h2,h3,h4⟩:=h.row x hx
  exact⟨h1,h2.ext hE,h3.ext hE.size,h4⟩,h.nm⟩
theorem HI.app{w0 A A':World}{B:Nat}{gv v':Value}{G:List GlX}{s:GlX}(h:HI w0 B A gv G)(hs:Row w0 s.2.1 (s.1.1.map vs)∧Rows 5 (DatAt w0) A s.2.2 s.1.2∧BlkB B A s.2.2∧∀a n c,s.2.2= .slice (some a) n c→some a.block≠gv.ownBlock)
  (hnm:NmG s.1.1) (ho:Owns 2 glC B A' 143 v' (G++ [s])) (hk:Keep (fun b=>some b=gv.ownBlock) A A') (hb:∀b,some b=v'.ownBlock→some b=gv.ownBlock∨A.heap.size≤b):HI w0 B A' v' (G++ [s]):=by
 refine⟨ho,fun y hy=>?_,fun y hy=>?_⟩
 ·have hy2:Row w0 y.2.1 (y.1.1.map vs)∧Rows 5 (DatAt w0) A y.2.2 y.1.2∧BlkB B A y.2.2∧∀a n c,y.2.2= .slice (some a) n c→some a.block≠gv.ownBlock:=by
   rcases List.mem_append.1 hy with hy|hy
   ·exact h.row y hy
   ·rw[List.mem_singleton.1 hy];exact hs
  obtain⟨h1,h2,h3,h4⟩:=hy2
  refine⟨h1,h2.blocks fun a n c hv=>hk.block _ (h3 a n c hv).2 (h4 a n c hv),h3.ext hk.size,fun a n c hv e=>?_⟩
  rcases hb _ e with e|e
  ·exact h4 a n c hv e
  ·have:=(h3 a n c hv).2;omega
 ·rcases List.mem_append.1 hy with hy|hy
  ·exact h.nm y hy
  ·rw[List.mem_singleton.1 hy];exact hnm
set_option maxHeartbeats 2000000 in
theorem zlH{w0 w:World}{ov lv dv:Value}{o:Nm}{R:List RecL}{D:List DatL}(hz:ZnAt w0 w ov lv o R)(hs:zdI R)(hd:Rows 5 (DatAt w0) w dv D)(hD:∀d∈D,∃h t,d.names=h::t∧NmG h)(hDl:D.length≤1000000000):
  Fn Tryz.prog 70 #[.agg #[ov,lv],dv] w (fun v w'=>Ext w w'∧Rows 2 (GlB w0 w.heap.size w') w' v (zbx R (zbk 2 D))∧BlkB w.heap.size w' v):=by
 obtain⟨ao,co,hov,_⟩:=id hz.org
 obtain⟨al,cl,hlv,_⟩:=hz.recs.open
 obtain⟨aD,cD,rfl,hcD,hgD⟩:=hd.open
 rw[hov,hlv]
 refine enter Tryz.func70 Tryz.ntmps70 rfl rfl ?_
 repeat refine c_r ?_
 refine rg0 ?_
 repeat refine c_r ?_
 rw[←hov,←hlv]
 refine zaA ?_
 intro w1 hE1 hs1 hA
 have d2:=zah (n:=2) (l:=[ov,lv]) hA rfl
 have s1:=hE1.size
 refine rg0 ?_
 repeat refine c_r ?_
 refine rg0 ?_
 repeat refine c_r ?_
 refine zap (fun m σ ds A=>ds=[]∧∃(i:Nat) (gv:Value) (G:List GlX),i+m=D.length∧σ 6=vi i∧σ 5=gv∧σ 1= .slice aD D.length cD∧σ 2= .pointer (some ⟨w.heap.size,0,Option.none⟩)∧Ext w1 A∧HI w0 w1.heap.size A gv G∧G.length≤i∧G.map Prod.fst=zfg R ((D.take i).filterMap fun d=>d.names.head?)) D.length ?_ ?_
 ·exact⟨rfl,0,.slice Option.none 0 0,[],by omega,vr0,vq0,vq0,vq0,Keep.refl _ _,⟨Owns.nil _ _ _ _ _,fun x h=>absurd h (by simp),fun x h=>absurd h (by simp)⟩,Nat.le_refl _,rfl⟩
 rintro m σ ds A ⟨rfl,i,gv,G,him,h6,h5,h1,h2,hEA,hHI,hGl,hGm⟩
 have hwA:=hE1.trans hEA
 repeat refine c_r ?_
 refine rg2 h6 h1 ?_
 repeat refine c_r ?_
 refine wc0 ?_ ?_
 ·intro hlt
  simp only[decide_eq_true_eq]at hlt
  have hi:i<D.length:=by omega
  have hi0:(0:Int)≤(i:Int):=by omega
  have hi1:(i:Int)<(D.length:Int):=by omega
  have hi1':(i:Int)+1=((i+1:Nat):Int):=by push_cast;rfl
  obtain⟨cd,hcd,hDd⟩:=hgD i hi
  obtain⟨d,hdd⟩:∃d,D[i]=d:=⟨_,rfl⟩
  rw[hdd]at hDd
  obtain⟨h,tl,hnames,hNm⟩:=hD d (hdd▸List.getElem_mem hi)
  obtain⟨xD,rfl⟩:=Option.isSome_iff_exists.1 (zan hcd)
  obtain⟨xi,hxi⟩:∃xi,adr (some xD) (i*5)=some xi:=⟨_,rfl⟩
  rw[hxi]at hcd
  have hcdA:=zae hwA hcd
  obtain⟨nm,nu,tx,rw',hcs,n1,_⟩:=hDd.ex
  obtain⟨vals,⟨an,cn,rfl,hcn,hgn⟩,hvl,hvr⟩:=n1
  have hvl1:0<vals.length:=by rw[hvl,hnames];simp
  obtain⟨xN,rfl⟩:=Option.isSome_iff_exists.1 (zai (hgn 0 hvl1))
  have e1:zaf A (adr (some xi) 1)=some (.slice (some xN) vals.length cn):=zaj hcdA (j:=1) (by rw[hcs];rfl)
  have e2:zaf A (some xN)=some (vals[0]'hvl1):=by
   have:=zab (hz.e0.trans hwA) (hgn 0 hvl1)
   rwa [zak]at this
  obtain⟨hv,hhv⟩:∃hv,vals[0]'hvl1=hv:=⟨_,rfl⟩
  have hrow:Row w0 hv (h.map vs):=by
   have:=hvr 0 hvl1 (by rw[hnames];simp)
   rw[hhv]at this
   simpa [hnames] using this
  rw[hhv]at e2
  have htk:((D.take (i+1)).filterMap fun d=>d.names.head?)=((D.take i).filterMap fun d=>d.names.head?)++ [h]:=by
   rw[zao hi,hdd,List.filterMap_append]
   simp[hnames]
  have hv0:(0:Int)<(vals.length:Int):=by omega
  have hz0:(0:Int)≤0:=by omega
  repeat refine c_r ?_
  refine rq ?_;intro gd K hgd hK;simp (disch:=first|omega|assumption|rfl) only[go_sem,h1,h6,hi0,hi1,hxi,e1,e2,hv0,hz0,zak,Nat.zero_mul,Int.toNat_zero];refine hK _ _ ?_;clear hK hgd;clear K gd
  repeat refine c_r ?_
  refine rg0 ?_
  repeat refine c_r ?_
  refine rg0 ?_
  repeat refine c_r ?_
  have hGb:G.length≤1000000000:=by omega
  refine zaC (Q:=fun e σ' ds' v'=>e= .exit 2∧ds'=[]∧σ' 7=hv∧σ' 6=vi i∧σ' 5=gv∧σ' 1= .slice (some xD) D.length cD∧σ' 2= .pointer (some ⟨w.heap.size,0,Option.none⟩)∧Ext A v'∧σ' 8= .bool (G.any fun x=>decide (zaX x.1.1=zaX h))) ?_ ?_
  ·refine zap (fun m2 σ ds v=>ds=[]∧∃(j:Nat),j+m2=G.length∧σ 9=vi j∧σ 8= .bool ((G.take j).any fun x=>decide (zaX x.1.1=zaX h))∧σ 7=hv∧σ 6=vi i∧σ 5=gv∧σ 1= .slice (some xD) D.length cD∧σ 2= .pointer (some ⟨w.heap.size,0,Option.none⟩)∧Ext A v) G.length ?_ ?_
   ·exact⟨rfl,0,by omega,vr0,vr0,vq0,(vq1 h6),(vq1 h5),(vq1 h1),(vq1 h2),Keep.refl _ _⟩
   clear h6 h5 h1 h2
   rintro m2 σ2 ds2 V ⟨rfl,j,hjm,h9,h8,h7,h6,h5,h1,h2,hV⟩
   obtain⟨ag,cg,hgv,hcg,hgG⟩:=hHI.own.rows.open
   repeat refine c_r ?_
   refine rg3 h9 h5 hgv ?_
   repeat refine c_r ?_
   refine wc0 ?_ ?_
   ·intro hlt2
    simp only[decide_eq_true_eq]at hlt2
    have hj:j<G.length:=by omega
    have hj0:(0:Int)≤(j:Int):=by omega
    have hj1:(j:Int)<(G.length:Int):=by omega
    have hj1':(j:Int)+1=((j+1:Nat):Int):=by push_cast;rfl
    obtain⟨cj,hcj,hCj⟩:=hgG j hj
    obtain⟨xG,rfl⟩:=Option.isSome_iff_exists.1 (zan hcj)
    obtain⟨yi,hyi⟩:∃yi,adr (some xG) (j*2)=some yi:=⟨_,rfl⟩
    rw[hyi,hCj.1]at hcj
    obtain⟨r1,r2,r3,r4⟩:=hHI.row G[j] (List.getElem_mem hj)
    have hNj:=hHI.nm G[j] (List.getElem_mem hj)
    have y0:zaf V (some yi)=some G[j].2.1:=by
     have:=zaj (zae hV hcj) (j:=0) rfl
     rwa [zak]at this
    obtain⟨bb,hbb⟩:∃bb,((G.take j).any fun x=>decide (zaX x.1.1=zaX h))=bb:=⟨_,rfl⟩
    have htj:((G.take (j+1)).any fun x=>decide (zaX x.1.1=zaX h))=(bb||decide (zaX G[j].1.1=zaX h)):=by
     rw[zao hj,List.any_append,hbb];simp
    rw[hbb]at h8
    have hw0V:=hz.e0.trans (hwA.trans hV)
    cases bb with
    |true=>
     repeat refine c_r ?_
     refine rq ?_;intro gd K hgd hK
     have hg1:∀n σ b,zas gd n σ (some (1,b))=zal (ev n σ (.tmp 31)) b:=(fun n σ b=>by rw[zad,show gd 1=some 31 from(by rw[hgd];rfl)];rfl)
     try simp (disch:=first|omega|assumption|rfl) only[go_sem,h8,h5,h9,h7,↓hg1]
     refine hK _ _ ?_;clear hK hgd;clear K;try clear gd
     repeat refine c_r ?_
     refine rg2 h9 hj1' ?_
     repeat refine c_r ?_
     exact⟨m2 - 1,by omega,rfl,j+1,by omega,vq0,by rw[htj,Bool.true_or];simp only[go_sem],(vq1 h7),(vq1 h6),(vq1 h5),(vq1 h1),(vq1 h2),hV⟩
    |false=>
     repeat refine c_r ?_
     refine rq ?_;intro gd K hgd hK
     have hg1:∀n σ b,zas gd n σ (some (1,b))=zal (ev n σ (.tmp 31)) b:=(fun n σ b=>by rw[zad,show gd 1=some 31 from(by rw[hgd];rfl)];rfl)
     try simp (disch:=first|omega|assumption|rfl) only[go_sem,h8,h5,hgv,h9,h7,hj0,hj1,hyi,y0,zak,↓hg1]
     refine Fn.mono (zeE V _ _ (r1.ext hw0V) hNj.lb hNj.len) ?_
     rintro _ V1 ⟨rfl,hV1⟩
     try simp (disch:=first|omega|assumption|rfl) only[go_sem,h7,↓hg1]
     refine Fn.mono (zeE V1 _ _ (hrow.ext (hw0V.trans hV1)) hNm.lb hNm.len) ?_
     rintro _ V2 ⟨rfl,hV2⟩
     try simp (disch:=first|omega|assumption|rfl) only[go_sem,↓hg1]
     refine hK _ _ ?_;clear hK hgd;clear K;try clear gd
     repeat refine c_r ?_
     refine rg2 h9 hj1' ?_
     repeat refine c_r ?_
     exact⟨m2 - 1,by omega,rfl,j+1,by omega,vq0,by rw[htj,Bool.false_or];first| (simp only[go_sem];done)| (simp only[go_sem];rfl),(vq1 h7),(vq1 h6),(vq1 h5),(vq1 h1),(vq1 h2),(hV.trans hV1).trans hV2⟩
   ·intro hge2
    simp only[decide_eq_false_iff_not]at hge2
    have hj:j=G.length:=by omega
    rw[hj,List.take_length]at h8
    repeat refine c_r ?_
    exact⟨rfl,rfl,(vq1 h7),(vq1 h6),(vq1 h5),(vq1 h1),(vq1 h2),hV,(vq1 h8)⟩
  clear h6 h5 h1 h2
  rintro _ σ1 _ A1 ⟨rfl,rfl,h7,h6,h5,h1,h2,hA1,h8⟩
  have hwA1:=hwA.trans hA1
  have hHI1:=hHI.ext hA1
  obtain⟨bb,hbb⟩:∃bb,(G.any fun x=>decide (zaX x.1.1=zaX h))=bb:=⟨_,rfl⟩
  have hbb':((G.map Prod.fst).any fun x=>decide (zaX x.1=zaX h))=bb:=by rw[List.any_map];exact hbb
  rw[hbb]at h8
  have d2A:=zae (hEA.trans hA1) d2
  repeat refine c_r ?_
  refine rq ?_;intro gd K hgd hK
  try simp (disch:=first|omega|assumption|rfl) only[go_sem,h2,h7,d2A]
  refine Fn.mono (RGlue_ok (hz.ext hwA1) hs (hrow.ext (hz.e0.trans hwA1)) (fun l hl=>by have:=hNm.lb l hl;omega) (by have:=hNm.len;omega)) ?_
  rintro gl A2 ⟨hA2,hgl,hglb⟩
  try simp only[go_sem]
  refine hK _ _ ?_;clear hK hgd;clear K;try clear gd
  obtain⟨al2,cl2,hgle,_⟩:=hgl.open
  have hwA2:=hwA1.trans hA2
  have hHI2:=hHI1.ext hA2
  have hgll:(zbd R h).length≤100000000000:=by
   have l1:=zbe (R:=R) (n:=h) (t:=1)
   have l28:=zbe (R:=R) (n:=h) (t:=28)
   have:=hz.rl
   unfold zbd
   rw[List.length_append];omega
  have hstep:zfg R ((D.take (i+1)).filterMap fun d=>d.names.head?)=if bb=false∧zbd R h≠ [] then G.map Prod.fst++ [(h,zbd R h)] else G.map Prod.fst:=by
   rw[htk,zh9,←hGm]
   unfold zbX
   rw[hbb']
  repeat refine c_r ?_
  refine zaC (Q:=fun e σ' ds' v'=>e= .normal∧ds'=[]∧σ' 10=gl∧σ' 7=hv∧σ' 6=vi i∧σ' 5=gv∧σ' 1= .slice (some xD) D.length cD∧σ' 2= .pointer (some ⟨w.heap.size,0,Option.none⟩)∧v'=A2∧σ' 51= .bool (!bb && decide (0<((zbd R h).length:Int)))) ?_ ?_
  ·cases bb with
   |true=>
    refine rq ?_;intro gd K hgd hK
    have hg2:∀n σ b,zas gd n σ (some (2,b))=zal (ev n σ (.tmp 47)) b:=(fun n σ b=>by rw[zad,show gd 2=some 47 from(by rw[hgd];rfl)];rfl)
    try simp (disch:=first|omega|assumption|rfl) only[go_sem,h8,↓hg2]
    refine hK _ _ ?_;clear hK hgd;clear K;try clear gd
    exact⟨rfl,rfl,vq0,(vq1 h7),(vq1 h6),(vq1 h5),(vq1 h1),(vq1 h2),rfl,vr0⟩
   |false=>
    refine rq ?_;intro gd K hgd hK
    have hg2:∀n σ b,zas gd n σ (some (2,b))=zal (ev n σ (.tmp 47)) b:=(fun n σ b=>by rw[zad,show gd 2=some 47 from(by rw[hgd];rfl)];rfl)
    try simp (disch:=first|omega|assumption|rfl) only[go_sem,h8,hgle,↓hg2]
    refine hK _ _ ?_;clear hK hgd;clear K;try clear gd
    exact⟨rfl,rfl,(vq1 hgle),(vq1 h7),(vq1 h6),(vq1 h5),(vq1 h1),(vq1 h2),rfl,vr0⟩
  clear h6 h5 h1 h2 h7 h8
  rintro _ σ3 _ A3 ⟨rfl,rfl,h10,h7,h6,h5,h1,h2,hA3,h51⟩
  rw[hA3]
  clear hA3 A3
  repeat refine c_r ?_
  refine zaB (t:=!bb && decide (0<((zbd R h).length:Int))) ((vq1 h51)) ?_ ?_
  ·intro ht
   simp only[Bool.and_eq_true,Bool.not_eq_true',decide_eq_true_eq]at ht
   have hne:zbd R h≠ []:=fun h0=>by rw[h0]at ht;simp at ht
   rw[if_pos ⟨ht.1,hne⟩]at hstep
   obtain⟨oa,oc,how,_⟩:=id hrow
   obtain⟨on,hon⟩:∃on,(h.map vs).length=on:=⟨_,rfl⟩
   obtain⟨gn,hgn2⟩:∃gn,(zbd R h).length=gn:=⟨_,rfl⟩
   rw[hon]at how
   rw[hgn2]at hgle
   have hone:one hv=true:=by rw[how];rfl
   have hong:one gl=true:=by rw[hgle];rfl
   repeat refine c_r ?_
   refine rq ?_;intro gd K hgd hK
   try simp (disch:=first|omega|assumption|rfl) only[go_sem,h5,h7,h10]
   refine⟨by kernel_rfl,?_⟩
   rw[how,hgle,show bdV Tryz.prog 143 [(0,.slice oa on oc),(1,.slice al2 gn cl2)]=some (.agg #[.slice oa on oc,.slice al2 gn cl2]) from by kernel_rfl]
   try simp only[go_sem]
   rw[←how,←hgle]
   refine zaT (l:=[hv,gl]) (a:=(((h,zbd R h),(hv,gl)):GlX)) zeQ rfl rfl rfl rfl ⟨rfl,hone,hong⟩ (by decide) ?_
   intro A3 hA3 hs3 ho3
   try simp (disch:=first|omega|assumption|rfl) only[go_sem,h5]
   have hA2s:=hA2.size
   have hA1s:=hA1.size
   have hEAs:=hEA.size
   refine zaI zeQ (hHI2.ext hA3).own ho3.rows rfl rfl rfl rfl rfl rfl (by decide) (vr0) (vr0) (by simp;omega) (by decide) (by omega) ?_
   intro v7 A4 ho7 hE7 hk7 hb7
   try simp only[go_sem]
   refine hK _ _ ?_;clear hK hgd;clear K;try clear gd
   have hgl3:=hgl.ext hA3
   have hglb3:=hglb.ext hA3.size
   have hnew:=(hHI2.ext hA3).app (s:=(((h,zbd R h),(hv,gl)):GlX)) ⟨hrow,hgl3,hglb3.mono (by omega),fun a n c hv e=>by
    have h8:=(hglb3 a n c hv).1
    have h9:=(hHI1.own.ge e).2
    omega⟩ hNm ho7 hk7 hb7
   repeat refine c_r ?_
   refine rg2 h6 hi1' ?_
   repeat refine c_r ?_
   exact⟨m - 1,by omega,rfl,i+1,v7,_,by omega,vq0,vq0,(vq1 h1),(vq1 h2),hE7 w1 (((hEA.trans hA1).trans hA2).trans hA3) (Nat.le_refl _),hnew,by simp;omega,by rw[hstep];simp⟩
  ·intro ht
   have hno:¬(bb=false∧zbd R h≠ []):=by
    rintro⟨rfl,h2⟩
    have:=List.length_pos_iff.2 h2
    rw[Bool.not_false,Bool.true_and,decide_eq_false_iff_not]at ht
    omega
   rw[if_neg hno]at hstep
   repeat refine c_r ?_
   refine rg2 h6 hi1' ?_
   repeat refine c_r ?_
   exact⟨m - 1,by omega,rfl,i+1,gv,G,by omega,vq0,(vq1 h5),(vq1 h1),(vq1 h2),(hEA.trans hA1).trans hA2,hHI2,by omega,hstep.symm⟩
 ·intro hge
  simp only[decide_eq_false_iff_not]at hge
  have hi:i=D.length:=by omega
  repeat refine c_r ?_
  refine rg1 h5 ?_
  repeat refine c_r ?_
  refine rt0 Tryz.ntmps70 ?_
  rw[hi,List.take_length]at hGm
  have hg:∀x∈(D.filterMap fun d=>d.names.head?),NmG x:=fun x hx=>by
   obtain⟨d,hd,h⟩:=List.mem_filterMap.1 hx
   obtain⟨h',t,hn,hN⟩:=hD d hd
   rw[hn]at h
   cases h
   exact hN
  rw[hints_is hg]at hGm
  have htg:zbk 2 D=za1 [] (D.filterMap fun d=>d.names.head?):=by
   unfold zbk zaz
   rw[if_pos (show zej 2=true from by decide)]
  have hgl:=hHI.own.rows.mapM (C':=GlB w0 w.heap.size A) Prod.fst (fun cs x hx hc=>by
   obtain⟨j1,j2,j3,j4⟩:=hHI.row x hx
   exact⟨x.2.1,x.2.2,hc.1,j1,j2,j3.mono (by omega)⟩)
  rw[hGm,←htg]at hgl
  exact⟨hwA,hgl,hHI.own.blk.mono (by omega)⟩
end Go.Proofs.YtopbbjdembnfdaaGreat
