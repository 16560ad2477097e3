/-
  Texts of a proof, joined: G4, G5, HX, K26, JR, JS, JT, JU, LF, ND, JY, JZ, NA, NF.
  Conditions: none.
-/
import Derived.Test.YtihbdhjibplldaaGreatDoorQLT07
import Derived.Test.YtihbdhjibplldaaGreatDoorQLT01
import Derived.Test.YtihbdhjibplldaaGreatDoorQLT06
import Derived.Test.YtihbdhjibplldaaGreatDoorQLT02
import Derived.Test.YtihbdhjibplldaaGreatDoorQLT05
import Derived.Test.YtihbdhjibplldaaGreatDoorQLT04
import Derived.Test.YtihbdhjibplldaaGreatDoorQLT03
import Derived.Lib.SplitLaws
set_option linter.unusedVariables false
set_option linter.unusedSimpArgs false
set_option linter.defProp false
set_option linter.unnecessarySimpa false
set_option maxHeartbeats 8000000
namespace Go.Proofs.YtihbdhjibplldaaGreatDoor
open Go
set_option maxRecDepth 10000
theorem few_f{n:Nm}(h:few n=true):(∀l∈n,l.length≤1000000000)∧n.length≤1000000000:=by
 simp only[few,Bool.and_eq_true,List.all_eq_true,decide_eq_true_eq]at h
 exact⟨fun l hl=>by have:=h.2 l hl;omega,by omega⟩
theorem DFew_ok{w0 w:World}(hE0:Ext w0 w){cs:List Value}{d:DatL}(hd:DatAt w0 cs d):
  Fn Tryz.prog 43 #[.agg cs.toArray] w (fun v w'=>Ext w w'∧∃b:Bool,v= .bool b∧(b=true→DatF d)):=by
 obtain⟨nm,nu,tx,rw',rfl,⟨vals,⟨an,cn,rfl,hcn,hgn⟩,hvl,hvr⟩,⟨au,cu,rfl,hcu,hgu⟩,⟨at1,ct,rfl,hct,hgt⟩,⟨ar,cr,rfl,hcr,hgr⟩⟩:=hd.ex
 simp only[List.length_map]at hcu hgu hct hgt hcr hgr
 simp only[List.length_map]
 refine enter Tryz.func43 Tryz.ntmps43 rfl rfl ?_
 repeat refine c_r ?_
 refine rg0 ?_
 repeat refine c_r ?_
 refine zam ?_
 intro w1 hE1 hs1 hA
 have p1:zad w1 (some ⟨w.heap.size,1,Option.none⟩)=some (.slice an vals.length cn):=zaa hA rfl
 have p2:zad w1 (some ⟨w.heap.size,2,Option.none⟩)=some (.slice au d.nums.length cu):=zaa hA rfl
 have p3:zad w1 (some ⟨w.heap.size,3,Option.none⟩)=some (.slice at1 d.texts.length ct):=zaa hA rfl
 have p4:zad w1 (some ⟨w.heap.size,4,Option.none⟩)=some (.slice ar d.raw.length cr):=zaa hA rfl
 refine zas (Q:=fun e σ' ds' v'=>e= .normal∧ds'=[]∧σ' 1= .pointer (some ⟨w.heap.size,0,Option.none⟩)∧v'=w1∧∃bb,σ' 26= .bool bb∧(bb=false→vals.length≤8∧d.nums.length≤12∧d.texts.length≤40∧d.raw.length≤1100)) ?_ ?_
 ·by_cases hA1:(vals.length:Int)>8
  ·refine rq ?_;intro gd K hgd hK
   have hg4:∀n σ b,zax gd n σ (some (4,b))=zap (ev n σ (.tmp 9)) b:=(fun n σ b=>by rw[zag,show gd 4=some 9 from(by rw[hgd];rfl)];rfl);have hg10:∀n σ b,zax gd n σ (some (10,b))=zap (ev n σ (.tmp 15)) b:=(fun n σ b=>by rw[zag,show gd 10=some 15 from(by rw[hgd];rfl)];rfl);have hg16:∀n σ b,zax gd n σ (some (16,b))=zap (ev n σ (.tmp 21)) b:=(fun n σ b=>by rw[zag,show gd 16=some 21 from(by rw[hgd];rfl)];rfl)
   try simp (disch:=first|omega|assumption|rfl) only[go_sem,p1,Nat.zero_add,decide_eq_true hA1,zb5,↓hg4,↓hg10,↓hg16]
   refine hK _ _ ?_;clear hK hgd;clear K;try clear gd
   exact⟨rfl,rfl,vq0,rfl,_,vr0,fun h=>by cases h⟩
  by_cases hA2:(d.nums.length:Int)>12
  ·refine rq ?_;intro gd K hgd hK
   have hg4:∀n σ b,zax gd n σ (some (4,b))=zap (ev n σ (.tmp 9)) b:=(fun n σ b=>by rw[zag,show gd 4=some 9 from(by rw[hgd];rfl)];rfl);have hg10:∀n σ b,zax gd n σ (some (10,b))=zap (ev n σ (.tmp 15)) b:=(fun n σ b=>by rw[zag,show gd 10=some 15 from(by rw[hgd];rfl)];rfl);have hg16:∀n σ b,zax gd n σ (some (16,b))=zap (ev n σ (.tmp 21)) b:=(fun n σ b=>by rw[zag,show gd 16=some 21 from(by rw[hgd];rfl)];rfl)
   try simp (disch:=first|omega|assumption|rfl) only[go_sem,p1,p2,Nat.zero_add,decide_eq_false hA1,decide_eq_true hA2,zb5,↓hg4,↓hg10,↓hg16]
   refine hK _ _ ?_;clear hK hgd;clear K;try clear gd
   exact⟨rfl,rfl,vq0,rfl,_,vr0,fun h=>by cases h⟩
  by_cases hA3:(d.texts.length:Int)>40
  ·refine rq ?_;intro gd K hgd hK
   have hg4:∀n σ b,zax gd n σ (some (4,b))=zap (ev n σ (.tmp 9)) b:=(fun n σ b=>by rw[zag,show gd 4=some 9 from(by rw[hgd];rfl)];rfl);have hg10:∀n σ b,zax gd n σ (some (10,b))=zap (ev n σ (.tmp 15)) b:=(fun n σ b=>by rw[zag,show gd 10=some 15 from(by rw[hgd];rfl)];rfl);have hg16:∀n σ b,zax gd n σ (some (16,b))=zap (ev n σ (.tmp 21)) b:=(fun n σ b=>by rw[zag,show gd 16=some 21 from(by rw[hgd];rfl)];rfl)
   try simp (disch:=first|omega|assumption|rfl) only[go_sem,p1,p2,p3,Nat.zero_add,decide_eq_false hA1,decide_eq_false hA2,decide_eq_true hA3,zb5,↓hg4,↓hg10,↓hg16]
   refine hK _ _ ?_;clear hK hgd;clear K;try clear gd
   exact⟨rfl,rfl,vq0,rfl,_,vr0,fun h=>by cases h⟩
  by_cases hA4:(d.raw.length:Int)>1100
  ·refine rq ?_;intro gd K hgd hK
   have hg4:∀n σ b,zax gd n σ (some (4,b))=zap (ev n σ (.tmp 9)) b:=(fun n σ b=>by rw[zag,show gd 4=some 9 from(by rw[hgd];rfl)];rfl);have hg10:∀n σ b,zax gd n σ (some (10,b))=zap (ev n σ (.tmp 15)) b:=(fun n σ b=>by rw[zag,show gd 10=some 15 from(by rw[hgd];rfl)];rfl);have hg16:∀n σ b,zax gd n σ (some (16,b))=zap (ev n σ (.tmp 21)) b:=(fun n σ b=>by rw[zag,show gd 16=some 21 from(by rw[hgd];rfl)];rfl)
   try simp (disch:=first|omega|assumption|rfl) only[go_sem,p1,p2,p3,p4,Nat.zero_add,decide_eq_false hA1,decide_eq_false hA2,decide_eq_false hA3,decide_eq_true hA4,zb5,↓hg4,↓hg10,↓hg16]
   refine hK _ _ ?_;clear hK hgd;clear K;try clear gd
   exact⟨rfl,rfl,vq0,rfl,_,vr0,fun h=>by cases h⟩
  ·refine rq ?_;intro gd K hgd hK
   have hg4:∀n σ b,zax gd n σ (some (4,b))=zap (ev n σ (.tmp 9)) b:=(fun n σ b=>by rw[zag,show gd 4=some 9 from(by rw[hgd];rfl)];rfl);have hg10:∀n σ b,zax gd n σ (some (10,b))=zap (ev n σ (.tmp 15)) b:=(fun n σ b=>by rw[zag,show gd 10=some 15 from(by rw[hgd];rfl)];rfl);have hg16:∀n σ b,zax gd n σ (some (16,b))=zap (ev n σ (.tmp 21)) b:=(fun n σ b=>by rw[zag,show gd 16=some 21 from(by rw[hgd];rfl)];rfl)
   try simp (disch:=first|omega|assumption|rfl) only[go_sem,p1,p2,p3,p4,Nat.zero_add,decide_eq_false hA1,decide_eq_false hA2,decide_eq_false hA3,decide_eq_false hA4,zb5,↓hg4,↓hg10,↓hg16]
   refine hK _ _ ?_;clear hK hgd;clear K;try clear gd
   exact⟨rfl,rfl,vq0,rfl,_,vr0,fun _=>⟨by omega,by omega,by omega,by omega⟩⟩
 rintro _ σ1 _ v1 ⟨rfl,rfl,h1,hv1,bb,h26,hbb⟩
 rw[hv1]
 clear hv1 v1
 repeat refine c_r ?_
 refine zcS (t:=bb) ((vq1 h26)) ?_ ?_
 ·intro _
  repeat (first|refine c_r ?_|refine rg0 ?_)
  refine rt0 Tryz.ntmps43 ?_
  exact⟨hE1,false,rfl,fun h=>by cases h⟩
 intro hb
 obtain⟨ln,lu,lt,lr⟩:=hbb hb
 repeat refine c_r ?_
 refine rg0 ?_
 repeat refine c_r ?_
 refine zas (Q:=fun e σ' ds' v'=>ds'=[]∧Ext w1 v'∧((e= .exit 0∧σ' 1= .pointer (some ⟨w.heap.size,0,Option.none⟩)∧∀n∈d.names,few n=true)∨(e= .ret∧σ' 2= .bool false))) ?_ ?_
 ·refine zaZ (fun m σ ds A=>ds=[]∧∃(i:Nat),i+m=vals.length∧σ 3=vi i∧σ 1= .pointer (some ⟨w.heap.size,0,Option.none⟩)∧Ext w1 A∧∀j (h:j<d.names.length),j<i→few d.names[j]=true) vals.length ?_ ?_
  ·exact⟨rfl,0,by omega,vr0,(vq1 h1),Keep.refl _ _,fun j h hj=>absurd hj (by omega)⟩
  clear h1
  rintro m σ ds A ⟨rfl,i,him,h3,h1,hEA,hlow⟩
  have q1:=zab hEA p1
  repeat refine c_r ?_
  refine rg4 h3 h1 q1 Nat.zero_add ?_
  repeat refine c_r ?_
  refine wc0 ?_ ?_
  ·intro hlt
   simp only[decide_eq_true_eq]at hlt
   have hi:i<vals.length:=by omega
   have hi0:(0:Int)≤(i:Int):=by omega
   have hi1:(i:Int)<(vals.length:Int):=by omega
   have hi1':(i:Int)+1=((i+1:Nat):Int):=by push_cast;rfl
   have hgi:=hgn i hi
   obtain⟨xN,rfl⟩:=Option.isSome_iff_exists.1 (zaj hgi)
   have hgi':=zab (hE0.trans (hE1.trans hEA)) hgi
   have hrow:=hvr i hi (by omega)
   obtain⟨n,hn⟩:∃n,d.names[i]'(by omega)=n:=⟨_,rfl⟩
   rw[hn]at hrow
   obtain⟨hv,hhv⟩:∃hv,vals[i]=hv:=⟨_,rfl⟩
   rw[hhv]at hgi' hrow
   repeat refine c_r ?_
   refine rq ?_;intro gd K hgd hK
   try simp (disch:=first|omega|assumption|rfl) only[go_sem,h3,h1,q1,Nat.zero_add,hi0,hi1,hgi']
   refine Fn.mono (zg4 A hv n (hrow.ext (hE0.trans (hE1.trans hEA)))) ?_
   rintro _ A2 ⟨rfl,hA2⟩
   try simp only[go_sem]
   refine hK _ _ ?_;clear hK hgd;clear K;try clear gd
   repeat refine c_r ?_
   refine zcS (t:=!few n) (vr0) ?_ ?_
   ·intro _
    repeat refine c_r ?_
    refine rg0 ?_
    repeat refine c_r ?_
    exact⟨rfl,hEA.trans hA2,.inr ⟨rfl,vq0⟩⟩
   ·intro hfn
    repeat refine c_r ?_
    refine rg2 h3 hi1' ?_
    repeat refine c_r ?_
    refine⟨m - 1,by omega,rfl,i+1,by omega,vq0,(vq1 h1),hEA.trans hA2,fun j hj hji=>?_⟩
    by_cases hj2:j=i
    ·subst hj2;rw[hn];simpa using hfn
    ·exact hlow j hj (by omega)
  ·intro hge
   simp only[decide_eq_false_iff_not]at hge
   repeat refine c_r ?_
   refine⟨rfl,hEA,.inl ⟨rfl,(vq1 h1),fun n hn=>?_⟩⟩
   obtain⟨j,hj,rfl⟩:=List.getElem_of_mem hn
   exact hlow j hj (by omega)
 clear h1
 rintro e σ4 _ A ⟨rfl,hEA,⟨rfl,h1,hall⟩| ⟨rfl,h2⟩⟩
 rotate_left
 ·repeat refine c_r ?_
  refine rt1 h2 Tryz.ntmps43 ?_
  exact⟨hE1.trans hEA,false,rfl,fun h=>by cases h⟩
 have q3:=zab hEA p3
 repeat refine c_r ?_
 refine rg0 ?_
 repeat refine c_r ?_
 refine zas (Q:=fun e σ' ds' v'=>ds'=[]∧v'=A∧((e= .exit 2∧σ' 1= .pointer (some ⟨w.heap.size,0,Option.none⟩)∧∀l∈d.texts,l.length≤300)∨(e= .ret∧σ' 2= .bool false))) ?_ ?_
 ·refine zaZ (fun m σ ds B=>ds=[]∧∃(i:Nat),i+m=d.texts.length∧σ 4=vi i∧σ 1= .pointer (some ⟨w.heap.size,0,Option.none⟩)∧B=A∧∀j (h:j<d.texts.length),j<i→d.texts[j].length≤300) d.texts.length ?_ ?_
  ·exact⟨rfl,0,by omega,vr0,(vq1 h1),rfl,fun j h hj=>absurd hj (by omega)⟩
  clear h1
  rintro m σ ds B ⟨rfl,i,him,h4,h1,hB2,hlow⟩
  rw[hB2]
  clear hB2 B
  repeat refine c_r ?_
  refine rg4 h4 h1 q3 Nat.zero_add ?_
  repeat refine c_r ?_
  refine wc0 ?_ ?_
  ·intro hlt
   simp only[decide_eq_true_eq]at hlt
   have hi:i<d.texts.length:=by omega
   have hi0:(0:Int)≤(i:Int):=by omega
   have hi1:(i:Int)<(d.texts.length:Int):=by omega
   have hi1':(i:Int)+1=((i+1:Nat):Int):=by push_cast;rfl
   have hgi:=hgt i hi
   obtain⟨xT,rfl⟩:=Option.isSome_iff_exists.1 (zaj hgi)
   have hgi':=zab (hE0.trans (hE1.trans hEA)) hgi
   rw[List.getElem_map]at hgi'
   repeat refine c_r ?_
   refine rg7 h4 h1 q3 Nat.zero_add hi0 hi1 hgi' ?_
   repeat refine c_r ?_
   refine wc0 ?_ ?_
   ·intro hgt2
    repeat refine c_r ?_
    refine rg0 ?_
    repeat refine c_r ?_
    exact⟨rfl,rfl,.inr ⟨rfl,vq0⟩⟩
   ·intro hgt2
    simp only[decide_eq_false_iff_not]at hgt2
    repeat refine c_r ?_
    refine rg2 h4 hi1' ?_
    repeat refine c_r ?_
    refine⟨m - 1,by omega,rfl,i+1,by omega,vq0,(vq1 h1),rfl,fun j hj hji=>?_⟩
    by_cases hj2:j=i
    ·subst hj2;omega
    ·exact hlow j hj (by omega)
  ·intro hge
   simp only[decide_eq_false_iff_not]at hge
   repeat refine c_r ?_
   refine⟨rfl,rfl,.inl ⟨rfl,(vq1 h1),fun l hl=>?_⟩⟩
   obtain⟨j,hj,rfl⟩:=List.getElem_of_mem hl
   exact hlow j hj (by omega)
 clear h1
 rintro e σ6 _ v1 ⟨rfl,hv1,⟨rfl,h1,htl⟩| ⟨rfl,h2⟩⟩
 rotate_left
 ·rw[hv1]
  repeat refine c_r ?_
  refine rt1 h2 Tryz.ntmps43 ?_
  exact⟨hE1.trans hEA,false,rfl,fun h=>by cases h⟩
 rw[hv1]
 clear hv1 v1
 repeat (first|refine c_r ?_|refine rg0 ?_)
 refine rt0 Tryz.ntmps43 ?_
 exact⟨hE1.trans hEA,true,rfl,fun _=>⟨fun n hn=>few_f (hall n hn),by omega,by omega,by omega,fun l hl=>by have:=htl l hl;omega,by omega,by omega,⟨by omega,by omega,htl,by omega,hall⟩⟩⟩
theorem RsFew_ok{w0 w:World}(hE0:Ext w0 w){lv:Value}{R:List RecL}(hl:Rows 7 (RecAt w0) w lv R):
  Fn Tryz.prog 21 #[lv] w (fun v w'=>Ext w w'∧∃b:Bool,v= .bool b∧(b=true→R.length≤60∧∀r∈R,few r.owner=true∧DatF r.dat)):=by
 obtain⟨aR,cR,rfl,hcR,hgR⟩:=hl.open
 refine enter Tryz.func21 Tryz.ntmps21 rfl rfl ?_
 repeat refine c_r ?_
 refine rg0 ?_
 repeat refine c_r ?_
 refine rg0 ?_
 repeat refine c_r ?_
 refine wc0 ?_ ?_
 ·intro _
  repeat (first|refine c_r ?_|refine rg0 ?_)
  refine rt0 Tryz.ntmps21 ?_
  exact⟨Keep.refl _ _,false,rfl,fun h=>by cases h⟩
 intro h60
 simp only[decide_eq_false_iff_not]at h60
 repeat refine c_r ?_
 refine rg0 ?_
 repeat refine c_r ?_
 refine zaZ (fun m σ ds A=>ds=[]∧∃(i:Nat),i+m=R.length∧σ 3=vi i∧σ 0= .slice aR R.length cR∧Ext w A∧∀j (h:j<R.length),j<i→few R[j].owner=true∧DatF R[j].dat) R.length ?_ ?_
 ·exact⟨rfl,0,by omega,vr0,vq0,Keep.refl _ _,fun j h hj=>absurd hj (by omega)⟩
 rintro m σ ds A ⟨rfl,i,him,h3,h0,hEA,hlow⟩
 repeat refine c_r ?_
 refine rg2 h3 h0 ?_
 repeat refine c_r ?_
 refine wc0 ?_ ?_
 ·intro hlt
  simp only[decide_eq_true_eq]at hlt
  have hi:i<R.length:=by omega
  have hi0:(0:Int)≤(i:Int):=by omega
  have hi1:(i:Int)<(R.length:Int):=by omega
  have hi1':(i:Int)+1=((i+1:Nat):Int):=by push_cast;rfl
  obtain⟨cr,hcr,hRr⟩:=hgR i hi
  obtain⟨r,hr⟩:∃r,R[i]=r:=⟨_,rfl⟩
  rw[hr]at hRr
  obtain⟨ow,dsc,hcrE,o1,o2,g0,g1,g2,gd⟩:=hRr.cells
  obtain⟨xR,rfl⟩:=Option.isSome_iff_exists.1 (zaA hcr)
  obtain⟨xi,hxi⟩:∃xi,adr (some xR) (i*7)=some xi:=⟨_,rfl⟩
  rw[hxi]at hcr
  obtain⟨xd,hxd⟩:∃xd,adr (some xi) 2=some xd:=⟨_,rfl⟩
  have rc:∀{x},Ext w x→zad x (some xi)=some ow∧zar x (some xd) 5=some dsc:=fun {x} hx=>by
   have hcx:=zah hx hcr
   have e0:=zbx hcx g0
   have e5:=zbf (m:=2) (k:=5) hcx
   rw[zan]at e0
   rw[hxd,gd]at e5
   exact⟨e0,e5⟩
  obtain⟨c0,_⟩:=rc hEA
  have hwA:=hE0.trans hEA
  repeat refine c_r ?_
  refine zas (Q:=fun e σ' ds' v'=>e= .normal∧ds'=[]∧σ' 3=vi i∧σ' 0= .slice (some xR) R.length cR∧Ext A v'∧∃bb,σ' 28= .bool bb∧(bb=false→few r.owner=true∧DatF r.dat)) ?_ ?_
  ·cases hf:few r.owner with
   |false=>
    refine rq ?_;intro gd K hgd hK
    have hg7:∀n σ b,zax gd n σ (some (7,b))=zap (ev n σ (.tmp 20)) b:=(fun n σ b=>by rw[zag,show gd 7=some 20 from(by rw[hgd];rfl)];rfl)
    try simp (disch:=first|omega|assumption|rfl) only[go_sem,h0,h3,hi0,hi1,hxi,c0,zan]
    refine Fn.mono (zg4 A ow r.owner (o1.ext hwA)) ?_
    rintro _ A2 ⟨rfl,hA2⟩
    rw[hf]
    try simp (disch:=first|omega|assumption|rfl) only[go_sem,Bool.not_false,↓hg7]
    refine hK _ _ ?_;clear hK hgd;clear K;try clear gd
    exact⟨rfl,rfl,(vq1 h3),(vq1 h0),hA2,_,vr0,fun h=>by cases h⟩
   |true=>
    refine rq ?_;intro gd K hgd hK
    have hg7:∀n σ b,zax gd n σ (some (7,b))=zap (ev n σ (.tmp 20)) b:=(fun n σ b=>by rw[zag,show gd 7=some 20 from(by rw[hgd];rfl)];rfl)
    try simp (disch:=first|omega|assumption|rfl) only[go_sem,h0,h3,hi0,hi1,hxi,c0,zan]
    refine Fn.mono (zg4 A ow r.owner (o1.ext hwA)) ?_
    rintro _ A2 ⟨rfl,hA2⟩
    rw[hf]
    obtain⟨_,c5⟩:=rc (hEA.trans hA2)
    try simp (disch:=first|omega|assumption|rfl) only[go_sem,h0,h3,hi0,hi1,hxi,hxd,c5,Bool.not_true,↓hg7]
    refine Fn.mono (DFew_ok (hwA.trans hA2) o2) ?_
    rintro _ A3 ⟨hA3,b,rfl,hb⟩
    try simp (disch:=first|omega|assumption|rfl) only[go_sem,↓hg7]
    refine hK _ _ ?_;clear hK hgd;clear K;try clear gd
    exact⟨rfl,rfl,(vq1 h3),(vq1 h0),hA2.trans hA3,_,vr0,fun h=>⟨rfl,hb (by simpa using h)⟩⟩
  clear h3 h0
  rintro _ σ1 _ A1 ⟨rfl,rfl,h3,h0,hA1,bb,h28,hbb⟩
  repeat refine c_r ?_
  refine zcS (t:=bb) ((vq1 h28)) ?_ ?_
  ·intro _
   repeat (first|refine c_r ?_|refine rg0 ?_)
   refine rt0 Tryz.ntmps21 ?_
   exact⟨hEA.trans hA1,false,rfl,fun h=>by cases h⟩
  ·intro ht
   repeat refine c_r ?_
   refine rg2 h3 hi1' ?_
   repeat refine c_r ?_
   refine⟨m - 1,by omega,rfl,i+1,by omega,vq0,(vq1 h0),hEA.trans hA1,fun j hj hji=>?_⟩
   by_cases hj2:j=i
   ·subst hj2;rw[hr];exact hbb ht
   ·exact hlow j hj (by omega)
 ·intro hge
  simp only[decide_eq_false_iff_not]at hge
  repeat (first|refine c_r ?_|refine rg0 ?_)
  refine rt0 Tryz.ntmps21 ?_
  refine⟨hEA,true,rfl,fun _=>⟨by omega,fun r hr=>?_⟩⟩
  obtain⟨j,hj,rfl⟩:=List.getElem_of_mem hr
  exact hlow j hj (by omega)
def Hz(S:Nat→Prop)(A:World)(P:World→Prop):Prop:=∀X,Keep S A X→P X
theorem Hz.now{S:Nat→Prop}{A:World}{P:World→Prop}(h:Hz S A P):P A:=h A (Keep.refl _ _)
theorem Hz.ext{S:Nat→Prop}{A B:World}{P:World→Prop}(h:Hz S A P)(hE:Ext A B):Hz S B P:=fun X hX=>h X ((hE.mono fun _ _ h=>h.elim).trans hX)
theorem Hz.app{S T S':Nat→Prop}{A B:World}{P:World→Prop}(h:Hz S A P)(hk:Keep T A B)(hT:∀b,b<A.heap.size→T b→S b)(hS:∀b,b<A.heap.size→S' b→S b):Hz S' B P:=fun X hX=>by
 have h1:Keep (fun b=>T b∨S' b) A B:=hk.mono fun _ _ h=> .inl h
 have h2:Keep (fun b=>T b∨S' b) B X:=hX.mono fun _ _ h=> .inr h
 exact h X ((h1.trans h2).mono fun b hb h=>h.elim (hT b hb) (hS b hb))
theorem row_hz{S:Nat→Prop}{A:World}{v:Value}{l:List Value}(hr:Row A v l)(hb:∀a n c,v= .slice (some a) n c→a.block<A.heap.size∧¬S a.block):Hz S A (fun X=>Row X v l):=fun X hX=>
 hr.blocks fun a n c hv=>hX.block _ (hb a n c hv).1 (hb a n c hv).2
theorem goodN_U{n:Nm}(h:ziP n=true):NmT n:=by
 unfold ziP at h
 simp only[Bool.and_eq_true,decide_eq_true_eq]at h
 have h1:=h.2
 exact⟨fun l hl=>by have:=(zdP h1 l hl).2;omega,by have:=ziZ h1;omega⟩
theorem few_T{n:Nm}(h:few n=true):NmT n:=by
 simp only[few,Bool.and_eq_true,List.all_eq_true,decide_eq_true_eq]at h
 exact⟨fun l hl=>by have:=h.2 l hl;omega,by omega⟩
theorem fold_T{n:Nm}(h:NmT n):NmT (zkD n):=by
 refine⟨fun l hl=>?_,by unfold zkD;rw[List.length_map];exact h.2⟩
 unfold zkD at hl
 obtain⟨x,hx,rfl⟩:=List.mem_map.1 hl
 have:=h.1 x hx
 simpa [zaT] using this
section
variable {P : Program} {d : Option Tmp} {ty : TypeId} {ps : String} {af : Array Edge} {g : Option (Nat × Bool)} {ρ : Operand → Value} {w : World} {K : Value → World → Prop}
theorem zfI{s:TypeId}{x:Operand}{f:Nat}{fs:Array Field}{fd:Field}{cs:Array Value}{v:Value}(hs:P.underlying s=some (.struct fs))(hf:fs[f]? =some fd)(ha:tyA P fd.type=false)(hu:(P.underlying fd.type).isSome=true)
  (hx:ρ x= .agg cs) (hv:cs[fd.offset]? =some v) (h:K v w):opV P ⟨d,.field s x f,ty,ps,af,g⟩ ρ w K:=by
 show opW P _ ρ w K
 refine zaz (s:=Instr.field s (ρ x) f) (w':=w) (v:=v) ?_ h
 obtain⟨u,hu⟩:=Option.isSome_iff_exists.1 hu
 have hi:(isAgg fd.type).run P w= .ok false w:=by
  unfold tyA at ha
  rw[hu]at ha
  cases u<;>first| (cases ha;done)|simp[isAgg,underlying,program,Sem.run,hu]
 have hp:(part fd.type cs fd.offset).run P w= .ok v w:=by
  unfold part
  simp only[Sem.run_bind,hi,Result.andThen_ok,Bool.false_eq_true,if_false,hv,Sem.run_pure]
 unfold Instr.field
 simp[underlying,program,Sem.run,hs,hf,hx,asAgg]
 exact hp
end
theorem own15_ok{W0 w:World}{b:Nat}{t1 t2:Lab}{q1 q2:Bool}{ov:Value}{o:Nm}{e e1 e2:Int}(hW:WX W0)(h:Rdr W0 w b [(t1,q1),(t2,q2)] ov e)(hl1:t1.length≤1000000)(hl2:t2.length≤1000000)(ho:Row W0 ov (o.map vs))(hoT:NmT o)
  (he1:zbi (if q1=true then zbi e 2 else e) (decP 65535 t1).2=e1) (he2:zbi (if q2=true then zbi e1 2 else e1) (zaX t2 o).2=e2):
  Fn Tryz.prog 160 #[.pointer (some ⟨b,0,Option.none⟩),vi 15] w (fun v w'=>(∃nmv nuv nv,v= .agg #[vi 15,nmv,nuv,.slice Option.none 0 0,.slice Option.none 0 0]∧Own w.heap.size w' 29 nuv [v32 (decP 65535 t1).1]∧Own w.heap.size w' 24 nmv [nv]∧Row w' nv ((zaX t2 o).1.map vs)∧BlkB w.heap.size w' nv)∧Rdr W0 w' b [] ov e2∧Keep (fun i=>i=b) w w'):=by
 have hbl:=h.lt
 have hlow:=h.low
 refine enter Tryz.func160 Tryz.ntmps160 rfl rfl ?_
 refine go trivial ?_
 refine zam ?_
 intro w1 hE1 hs1 hA
 refine rq ?_;intro gd K hgd hK
 try simp only[go_sem]
 refine⟨by kernel_rfl,?_⟩
 rw[show bdV Tryz.prog 34 [(0,vi 15)]=some (.agg #[vi 15,.slice Option.none 0 0,.slice Option.none 0 0,.slice Option.none 0 0,.slice Option.none 0 0]) from by kernel_rfl]
 try simp only[go_sem]
 refine zbu (P:=Tryz.prog) (l:=[vi 15,.slice Option.none 0 0,.slice Option.none 0 0,.slice Option.none 0 0,.slice Option.none 0 0]) rfl (zdf _ _ _ _ _ rfl rfl rfl rfl) rfl rfl ?_
 intro w2 hE2 hs2 hB2
 try simp only[go_sem]
 refine hK _ _ ?_;clear hK hgd;clear K;try clear gd
 rw[hs1]at hB2
 simp only[hs1]
 have hR2:=(h.extx hE1).extx hE2
 refine go trivial ?_
 refine rc trivial (zeH hR2 15) ?_
 rintro _ w3 ⟨rfl,hE3⟩
 rw[show zfO 15 ([(t1,q1),(t2,q2)]:List (Lab×Bool)).length=true from rfl]
 have d1:decide ((15:Int)=1)=false:=rfl
 have d2:decide ((15:Int)=28)=false:=rfl
 have d3:decide ((15:Int)=16)=false:=rfl
 have d4:decide ((15:Int)=15)=true:=rfl
 refine rgo (an4 d1 d2 d3 d4) ?_
 have hR3:=hR2.extx hE3
 have hs3:=hE3.size
 have hB3:=Ext.at hE3 hB2
 obtain⟨P,hP⟩:∃P,w.heap.size+1=P:=⟨_,rfl⟩
 rw[hP]at hB3 ⊢
 have hP3:P<w3.heap.size:=(Array.getElem?_eq_some_iff.1 hB3).1
 have q3:zad w3 (some ⟨P,2,Option.none⟩)=some (.slice Option.none 0 0):=za8 (j:=2) hB3 rfl
 have hdl:=zcJ 65535 t1
 refine zas (Q:=fun e' σ' ds' v'=>e'= .normal∧ds'=[]∧(σ' 0= .pointer (some ⟨b,0,Option.none⟩)∧σ' 4= .pointer (some ⟨w.heap.size,0,Option.none⟩)∧σ' 5= .pointer (some ⟨P,0,Option.none⟩))∧Rdr W0 v' b [(t2,q2)] ov e1∧Keep (fun i=>i=b∨i=P) w3 v'∧∃nuv,v'.heap[P]? =some (.cells [vi 15,.slice Option.none 0 0,nuv,.slice Option.none 0 0,.slice Option.none 0 0].toArray 34 (0,0))∧Own w3.heap.size v' 29 nuv [v32 (decP 65535 t1).1]) ?_ ?_
 ·refine zaR (fun i=>i==7) [(0,true),(1,true),(2,true),(3,false),(4,false),(5,false),(6,true),(7,false)] ((fun i=>i=b)) mixed (by kernel_rfl) ?_;intro gd K x hgd hx hxe hK;have hx0:=zaQ hxe;clear hxe
  have q3x:=zab hx0 q3
  have hsx:=hx0.size
  simp (disch:=first|omega|assumption|rfl) only[go_sem,q3x,Nat.zero_add]
  refine⟨fun a ha hb'=>by cases ha;dsimp only at hb';omega,?_⟩
  refine Fn.mono (num_ok hW (hR3.extx hx0) (by simp) (by omega) 65535 (by decide)) ?_
  rw[he1]
  rintro _ y1 ⟨rfl,hR1,hk1⟩
  refine⟨.inr hk1,?_⟩
  simp (disch:=first|omega|assumption|rfl) only[go_sem]
  refine za5 (z:=v32 0) rfl rfl rfl rfl rfl ?_
  intro y2 hy2 hys2 hyo
  refine⟨.inr hy2.keep,?_⟩
  simp (disch:=first|omega|assumption|rfl) only[go_sem]
  have hsy1:=hk1.size
  have hsy2:=hy2.size
  refine zaV (B:=w3.heap.size) (e:=29) (Own.nil _ _ _) hyo.row rfl rfl rfl rfl rfl rfl (vr0) (vr0) (fun q hq=>by rw[List.mem_singleton.1 hq];rfl) (by simp) (by decide) (by omega) ?_
  intro sv' y3 hown3 hX3 hK3 hb3'
  refine⟨.inr (hK3.mono fun i _ h=>by cases h),?_⟩
  simp (disch:=first|omega|assumption|rfl) only[go_sem,Nat.zero_add]
  have hsK:=hK3.size
  have hBP3:y3.heap[P]? =_:=(hK3.block P (by omega) (fun h=>by cases h)).trans ((hy2.block P (by omega) (fun h=>h)).trans ((hk1.block P (by omega) (by omega)).trans (Ext.at hx0 hB3)))
  refine zcA (P:=Tryz.prog) (t:=31) (j:=2) (u:=sv') hBP3 (by simp) (by obtain⟨a,c,rfl⟩:=hown3.slice;rfl) rfl rfl ?_
  intro z hzs hBz hkz
  refine⟨.inl rfl,?_⟩
  simp (disch:=first|omega|assumption|rfl) only[go_sem]
  refine hK _ _ ?_;clear hK hgd;clear K;try clear gd
  simp only[List.set_cons_zero,List.set_cons_succ]at hBz
  have ha:Keep (fun i=>i=b∨i=P) w3 y2:=((hx0.mono fun _ _ h=>h.elim).trans (hk1.mono fun _ _ h=> .inl h)).trans (hy2.mono fun _ _ h=>h.elim)
  exact⟨rfl,rfl,⟨vr0,vr0,vr0⟩,((hR1.extx hy2).keep hK3 fun i hi=>by cases hi).keep hkz fun i hi=>by omega,(ha.own hK3 fun i hi h=>by cases h).trans (hkz.mono fun _ _ h=> .inr h),sv',hBz,hown3.keep hkz fun i hi hs=>by have:=(hown3.ge hi).1;omega⟩
 rintro _ σ1 _ w4 ⟨rfl,rfl,⟨s0,s4,s5⟩,hR4,hk4,nuv,hB4,hnu⟩
 have hs4:=hk4.size
 obtain⟨na,nc,hnuv⟩:=hnu.slice
 have q4:zad w4 (some ⟨P,1,Option.none⟩)=some (.slice Option.none 0 0):=za8 (j:=1) hB4 rfl
 refine go (an3 s0 s4 s5) ?_
 refine zas (Q:=fun e' σ' ds' v'=>e'= .normal∧ds'=[]∧(σ' 4= .pointer (some ⟨w.heap.size,0,Option.none⟩)∧σ' 5= .pointer (some ⟨P,0,Option.none⟩))∧Rdr W0 v' b [] ov e2∧Keep (fun i=>i=b∨i=P) w4 v'∧∃nmv nv,v'.heap[P]? =some (.cells [vi 15,nmv,nuv,.slice Option.none 0 0,.slice Option.none 0 0].toArray 34 (0,0))∧Own w4.heap.size v' 24 nmv [nv]∧Row v' nv ((zaX t2 o).1.map vs)∧BlkB w4.heap.size v' nv∧one nv=true) ?_ ?_
 ·refine zaR (fun i=>i==7) [(0,true),(1,true),(2,true),(3,false),(4,false),(5,false),(6,true),(7,false)] ((fun i=>i=b)) mixed (by kernel_rfl) ?_;intro gd K x hgd hx hxe hK;have hx0:=zaQ hxe;clear hxe
  have q4x:=zab hx0 q4
  have hsx:=hx0.size
  simp (disch:=first|omega|assumption|rfl) only[go_sem,s0,s5,q4x,Nat.zero_add]
  refine⟨fun a ha hb'=>by cases ha;dsimp only at hb';omega,?_⟩
  refine Fn.mono (zkf (hR4.extx hx0) (by simp) (by omega) ho hoT) ?_
  rw[he2]
  rintro nv y1 ⟨hrow,hbk,hR1,hk1⟩
  refine⟨.inr hk1,?_⟩
  obtain⟨nva,nvc,hnve,_⟩:=id hrow
  simp (disch:=first|omega|assumption|rfl) only[go_sem]
  refine za5 (z:= .slice Option.none 0 0) (v:=nv) rfl rfl rfl rfl (by rw[hnve];rfl) ?_
  intro y2 hy2 hys2 hyo
  refine⟨.inr hy2.keep,?_⟩
  simp (disch:=first|omega|assumption|rfl) only[go_sem]
  have hsy1:=hk1.size
  have hsy2:=hy2.size
  refine zaV (B:=w4.heap.size) (e:=24) (Own.nil _ _ _) hyo.row rfl rfl rfl rfl rfl rfl (vr0) (vr0) (fun q hq=>by rw[List.mem_singleton.1 hq,hnve];rfl) (by simp) (by decide) (by omega) ?_
  intro sv' y3 hown3 hX3 hK3 hb3'
  refine⟨.inr (hK3.mono fun i _ h=>by cases h),?_⟩
  simp (disch:=first|omega|assumption|rfl) only[go_sem,s5,Nat.zero_add]
  have hsK:=hK3.size
  have hBP3:y3.heap[P]? =_:=(hK3.block P (by omega) (fun h=>by cases h)).trans ((hy2.block P (by omega) (fun h=>h)).trans ((hk1.block P (by omega) (by omega)).trans (Ext.at hx0 hB4)))
  refine zcA (P:=Tryz.prog) (t:=30) (j:=1) (u:=sv') hBP3 (by simp) (by obtain⟨a,c,rfl⟩:=hown3.slice;rfl) rfl rfl ?_
  intro z hzs hBz hkz
  refine⟨.inl rfl,?_⟩
  simp (disch:=first|omega|assumption|rfl) only[go_sem]
  refine hK _ _ ?_;clear hK hgd;clear K;try clear gd
  simp only[List.set_cons_zero,List.set_cons_succ]at hBz
  have ha:Keep (fun i=>i=b∨i=P) w4 y2:=((hx0.mono fun _ _ h=>h.elim).trans (hk1.mono fun _ _ h=> .inl h)).trans (hy2.mono fun _ _ h=>h.elim)
  have hrz:Row z nv ((zaX t2 o).1.map vs):=by
   refine Row.blocks (w:=y3) (Row.blocks (w:=y2) (hrow.ext hy2) fun a n' c hv=>?_) fun a n' c hv=>?_
   ·have h2:=hbk a n' c hv
    exact hK3.block _ (by omega) (fun hh=>by cases hh)
   ·have h2:=hbk a n' c hv
    exact hkz.block _ (by omega) (by omega)
  refine⟨rfl,rfl,⟨(vq1 s4),(vq1 s5)⟩,((hR1.extx hy2).keep hK3 fun i hi=>by cases hi).keep hkz fun i hi=>by omega,(ha.own hK3 fun i hi h=>by cases h).trans (hkz.mono fun _ _ h=> .inr h),sv',nv,hBz,hown3.keep hkz fun i hi hs=>by have:=(hown3.ge hi).1;omega,hrz,fun a n' c hv=>?_,by rw[hnve];rfl⟩
  have h2:=hbk a n' c hv
  omega
 clear s0 s4 s5
 rintro _ σ2 _ w5 ⟨rfl,rfl,⟨s4,s5⟩,hR5,hk5,nmv,nv,hB5,hnm,hnr,hnb,hn1⟩
 obtain⟨ma,mc,hnmv⟩:=hnm.slice
 have hs5:=hk5.size
 have q5:=zal (n:=5) hB5 rfl
 refine go (an2 s4 s5) ?_
 refine rq ?_;intro gd K hgd hK
 try simp (disch:=first|omega|assumption|rfl) only[go_sem,s4,s5,q5]
 have hA5:w5.heap[w.heap.size]? =_:=(hk5.block _ (by omega) (by omega)).trans ((hk4.block _ (by omega) (by omega)).trans (Ext.at (hE2.trans hE3) hA))
 refine zaJ (P:=Tryz.prog) (t:=34) (l:=[vi 15,nmv,nuv,.slice Option.none 0 0,.slice Option.none 0 0]) hA5 rfl (zdf _ _ _ _ _ (by rw[hnmv];rfl) (by rw[hnuv];rfl) rfl rfl) rfl rfl ?_
 intro w6 hs6 hB6 hk6
 try simp only[go_sem]
 refine hK _ _ ?_;clear hK hgd;clear K;try clear gd
 refine go trivial ?_
 refine zaf (.inr rfl) Tryz.ntmps160 rfl (zaO (x:=⟨w.heap.size,0,Option.none⟩) (k:=5) ((vr1 s4)) rfl rfl (zal hB6 rfl) zae) ?_
 have hE13:=(hE1.trans hE2).trans hE3
 refine⟨⟨nmv,nuv,nv,rfl,((hnu.keep hk5 fun i hi hs=>by have:=hnu.ge hi;omega).keep hk6 fun i hi hs=>by have:=hnu.ge hi;omega).mono (by omega),(hnm.keep hk6 fun i hi hs=>by have:=(hnm.ge hi).1;omega).mono (by omega),hnr.blocks fun a n' c hv=>hk6.block _ (hnb a n' c hv).2 (by have:=(hnb a n' c hv).1;omega),(hnb.ext hk6.size).mono (by omega)⟩,hR5.keep hk6 fun i hi=>by omega,?_⟩
 exact((((hE13.mono fun _ _ h=>h.elim):Keep (fun i=>i=b) w w3).own hk4 fun i hi h=>by omega).own hk5 fun i hi h=>by omega).own hk6 fun i hi h=>by omega
theorem zbM(w:World):Row w (.slice Option.none 0 0) []:=(Own.nil 0 w 0).row
def rawD(T:Int)(bs:List UInt8):DatL:=⟨T,[],[],[],bs⟩
theorem raw_at{w:World}{rv:Value}{T:Int}{bs:List UInt8}(h:Row w rv (bs.map zao)):DatAt w [vi T,.slice Option.none 0 0,.slice Option.none 0 0,.slice Option.none 0 0,rv] (rawD T bs):=⟨_,_,_,_,rfl,zcb w,zbM w,zbM w,h⟩
theorem raw_T{T:Int}{bs:List UInt8}(h:bs.length≤2000):DatT (rawD T bs):=⟨⟨(fun n hn=>by cases hn),(by simp[rawD]),(by simp[rawD]),(fun n hn=>by cases hn),(by simp[rawD]),(fun n hn=>by cases hn),h⟩,(by simp[rawD])⟩
theorem any_ok{W0 w:World}{b:Nat}{t0 t:Lab}{q0:Bool}{ws:List (Lab×Bool)}{ov:Value}{n:Nat}{bs:List UInt8}(hW:WX W0)(h:Rdr W0 w b ((t0,q0)::(t,false)::ws) ov 0)(T:Int)(hT:(zay T).2.2.2≠0)(hl:ws.length≤1000)(ht:t.length≤1000000)(hn:decP 4294967295 t=(n,0))(hn2:n≤1024)(hwq:∀x∈ws,x.2=false∧x.1.length≤1000000)(htr:Lib.trimS (catW ws) digs16=[])(hlen:(catW ws).length=2*n)(hp:Pairs (catW ws) bs):
  Fn Tryz.prog 159 #[.pointer (some ⟨b,0,Option.none⟩),vi T] w (fun v w'=>(∃rv,v= .agg #[vi T,.slice Option.none 0 0,.slice Option.none 0 0,.slice Option.none 0 0,rv]∧Own w.heap.size w' 5 rv (bs.map zao))∧Rdr W0 w' b [] ov (zbe (rawD T bs))∧Keep (fun i=>i=b) w w'):=by
 have hbl:=h.lt
 have hlow:=h.low
 obtain⟨wv,hb,hr⟩:=h.at'
 obtain⟨a,c,rfl,hc,hg⟩:=hr.open
 rw[List.length_cons]at hc
 have hdr:=hr.drop (m:=1) (by simp)
 rw[List.drop_one,List.tail_cons,List.length_cons]at hdr
 have l1:(1:Int)≤((((t,false)::ws).length+1:Nat):Int):=by omega
 have l2:(1:Int)≤(c:Int):=by omega
 have hbsl:bs.length=n:=by have:=hp.1;omega
 refine enter Tryz.func159 Tryz.ntmps159 rfl rfl ?_
 refine go trivial ?_
 refine zam ?_
 intro w1 hE1 hs1 hA
 have hb1:=Ext.at hE1 hb
 have c0:zad w1 (some ⟨b,0,Option.none⟩)=some (.slice a (((t,false)::ws).length+1) c):=zaa hb1 rfl
 refine rq ?_;intro gd K hgd hK
 try simp (disch:=first|omega|assumption|rfl) only[go_sem,c0,l1,l2,Nat.zero_add]
 refine zaq (P:=Tryz.prog) rfl rfl rfl hb1 (by simp) (by simp) ?_
 intro w2 hs2 hb2 hk2
 try simp only[go_sem]
 refine hK _ _ ?_;clear hK hgd;clear K;try clear gd
 have hR2:Rdr W0 w2 b ((t,false)::ws) ov 0:=⟨Keep.to_ext (h.ext.trans hE1) rfl (fun i hi=>by omega) hk2,h.low,⟨_,hb2,hdr⟩,h.one⟩
 refine go trivial ?_
 refine rq ?_;intro gd K hgd hK
 try simp only[go_sem]
 refine⟨by kernel_rfl,?_⟩
 rw[show bdV Tryz.prog 34 [(0,vi T)]=some (.agg #[vi T,.slice Option.none 0 0,.slice Option.none 0 0,.slice Option.none 0 0,.slice Option.none 0 0]) from by kernel_rfl]
 try simp only[go_sem]
 refine zbu (P:=Tryz.prog) (l:=[vi T,.slice Option.none 0 0,.slice Option.none 0 0,.slice Option.none 0 0,.slice Option.none 0 0]) rfl (zdf _ _ _ _ _ rfl rfl rfl rfl) rfl rfl ?_
 intro w3 hE3 hs3 hB3
 try simp only[go_sem]
 refine hK _ _ ?_;clear hK hgd;clear K;try clear gd
 have hw2:w2.heap.size=w.heap.size+1:=by omega
 rw[hw2]at hB3
 simp only[hw2]
 have hR3:=hR2.extx hE3
 refine go trivial ?_
 refine rq ?_;intro gd K hgd hK
 try simp only[go_sem]
 refine Fn.mono (zj6 w3 T) ?_
 rintro _ w4 ⟨rfl,hE4⟩
 unfold zfc
 try simp only[go_sem]
 refine zfI (cs:=#[vi (zay T).1,vi (zay T).2.1,vi (zay T).2.2.1,vi (zay T).2.2.2]) rfl rfl rfl rfl (vr0) rfl ?_
 have d1:decide ((zay T).2.2.2=0)=false:=decide_eq_false hT
 try simp (disch:=first|omega|assumption|rfl) only[go_sem,d1]
 refine hK _ _ ?_;clear hK hgd;clear K;try clear gd
 have hR4:=hR3.extx hE4
 obtain⟨wv4,hb4,hr4⟩:=hR4.at'
 obtain⟨a4,k4,rfl,_,_⟩:=hr4.open
 have c4:zad w4 (some ⟨b,0,Option.none⟩)=some (.slice a4 ((t,false)::ws).length k4):=zaa hb4 rfl
 have d2:decide ((((t,false)::ws).length:Int)=0)=false:=decide_eq_false (by rw[List.length_cons];omega)
 refine go (an4 d1 c4 d2 (Nat.zero_add 0)) ?_
 have hs4:=hE4.size
 refine rq ?_;intro gd K hgd hK
 try simp only[go_sem]
 refine Fn.mono (ziH hW hR4 hl ht hn hn2 hwq htr hlen hp) ?_
 rintro rv w5 ⟨hown,hR5,hk5⟩
 obtain⟨ra,rc',hrv⟩:=hown.slice
 have hs5:=hk5.size
 have hB5:=(hk5.block (w.heap.size+1) (by omega) (by omega)).trans (Ext.at hE4 hB3)
 try simp (disch:=first|omega|assumption|rfl) only[go_sem,Nat.zero_add]
 refine zcA (P:=Tryz.prog) (t:=32) (j:=4) (u:=rv) hB5 (by simp) (by rw[hrv];rfl) rfl rfl ?_
 intro w6 hs6 hB6 hk6
 try simp only[go_sem]
 refine hK _ _ ?_;clear hK hgd;clear K;try clear gd
 simp only[List.set_cons_zero,List.set_cons_succ]at hB6
 have hR6:Rdr W0 w6 b [] ov 0:=hR5.keep hk6 fun i hi=>by omega
 have hown6:=hown.keep hk6 fun i hi hs=>by have:=(hown.ge hi).1;omega
 obtain⟨wv6,hb6,_⟩:=hR6.at'
 have c6:zad w6 (some ⟨b,2,Option.none⟩)=some (vi 0):=zaa hb6 rfl
 have q6:=zal (n:=5) hB6 rfl
 have ez:decide ((0:Int)=0)=true:=rfl
 refine go (an3 c6 ez (Nat.zero_add 2)) ?_
 refine rc q6 (zlx (cs:=[vi T,.slice Option.none 0 0,.slice Option.none 0 0,.slice Option.none 0 0,rv]) (raw_at hown6.row) (raw_T (by omega))) ?_
 rintro _ w7 ⟨rfl,hE7⟩
 refine rd trivial (zcI (hR6.extx hE7) (zbe (rawD T bs))) ?_
 rw[show zbi 0 (zbe (rawD T bs))=zbe (rawD T bs) from rfl]
 rintro _ w8 ⟨hR8,hk8⟩
 have hs7:=hE7.size
 have hs8:=hk8.size
 refine rgo trivial ?_
 have hB8:=(hk8.block (w.heap.size+1) (by omega) (by omega)).trans (Ext.at hE7 hB6)
 have q8:=zal (n:=5) hB8 rfl
 refine rq ?_;intro gd K hgd hK
 try simp (disch:=first|omega|assumption|rfl) only[go_sem,q8]
 have hk36:Keep (fun i=>i=b∨i=w.heap.size+1) w3 w8:=(((hE4.mono fun _ _ h=>h.elim).trans (hk5.mono fun _ _ h=> .inl h)).trans (hk6.mono fun _ _ h=> .inr h)).trans ((hE7.mono fun _ _ h=>h.elim).trans (hk8.mono fun _ _ h=> .inl h))
 have hA8:w8.heap[w.heap.size]? =_:=(hk36.block _ (by omega) (by omega)).trans (Ext.at hE3 ((hk2.block _ (by omega) (by omega)).trans hA))
 refine zaJ (P:=Tryz.prog) (t:=34) (l:=[vi T,.slice Option.none 0 0,.slice Option.none 0 0,.slice Option.none 0 0,rv]) hA8 rfl (zdf _ _ _ _ _ rfl rfl rfl (by rw[hrv];rfl)) rfl rfl ?_
 intro w9 hs9 hB9 hk9
 try simp only[go_sem]
 refine hK _ _ ?_;clear hK hgd;clear K;try clear gd
 refine go trivial ?_
 refine zaf (.inr rfl) Tryz.ntmps159 rfl (zaO (x:=⟨w.heap.size,0,Option.none⟩) (k:=5) (vr0) rfl rfl (zal hB9 rfl) zae) ?_
 refine⟨⟨rv,rfl,((((hown6.ext hE7).keep hk8 fun i hi hs=>by have:=(hown6.ge hi).1;omega)).keep hk9 fun i hi hs=>by have:=(hown6.ge hi).1;omega).mono (by omega)⟩,hR8.keep hk9 fun i hi=>by omega,?_⟩
 have hk03:Keep (fun i=>i=b) w w3:=((hE1.mono fun _ _ h=>h.elim).trans hk2).trans (hE3.mono fun _ _ h=>h.elim)
 exact(hk03.own hk36 fun i hi h=>by omega).own hk9 fun i hi h=>by omega
def zbU(ws:List (Lab×Bool)):Bool:=match ws with|x::_=>decide (x=([92,35],false))| []=>false
theorem zfr{w:World}{t:Int}{wv:Value}{oa:Option Addr}{on oc:Nat}{ws:List (Lab×Bool)}{e:Int}{G:Nat→List Value→World→Prop}(ht1:1≤t)(ht2:t≤65535)(hr:Rows 2 WdC w wv ws)
  (hG:∀B cs x y S,G B cs x→Keep S x y→(∀i,S i→i<B)→G B cs y)
  (hc:∀(b:Nat) (w1:World),Rdr w w1 b ws (.slice oa on oc) 0→Fn Tryz.prog (if zbU ws=true then 159 else 160) #[.pointer (some ⟨b,0,Option.none⟩),vi t] w1 (fun v w'=>(∃cs:List Value,v= .agg cs.toArray∧cs.length=5∧(∀x∈cs,one x=true)∧G w1.heap.size cs w')∧Rdr w w' b [] (.slice oa on oc) e∧Keep (fun i=>i=b) w1 w')):
  Fn Tryz.prog 134 #[vi t,wv,.slice oa on oc] w (fun v w'=>Ext w w'∧(e=0→∃cs:List Value,∃B,v= .tuple #[.agg cs.toArray,vi 0]∧w.heap.size≤B∧G B cs w')∧(¬e=0→v= .tuple #[.agg ([vi 0,.slice Option.none 0 0,.slice Option.none 0 0,.slice Option.none 0 0,.slice Option.none 0 0]:List Value).toArray,vi e])):=by
 obtain⟨wa,wc,rfl,hcap,hget⟩:=hr.open
 refine enter Tryz.func134 Tryz.ntmps134 rfl rfl ?_
 refine go trivial ?_
 refine zam ?_
 intro w1 hE1 hs1 hA
 refine rq ?_;intro gd K hgd hK
 try simp only[go_sem]
 refine⟨by kernel_rfl,?_⟩
 rw[show bdV Tryz.prog 234 [(0,.slice wa ws.length wc),(1,.slice oa on oc)]=some (.agg #[.slice wa ws.length wc,.slice oa on oc,vi 0]) from by kernel_rfl]
 try simp only[go_sem]
 refine hK _ _ ?_;clear hK hgd;clear K;try clear gd
 refine zam ?_
 intro w2 hE2 hs2 hB
 rw[hs1]at hB
 simp only[hs1]
 refine go trivial ?_
 refine zam ?_
 intro w3 hE3 hs3 hC
 have hw2:w2.heap.size=w.heap.size+2:=by omega
 rw[hw2]at hC
 simp only[hw2]
 have hR3:Rdr w w3 (w.heap.size+1) ws (.slice oa on oc) 0:=⟨(hE1.trans hE2).trans hE3,by omega,⟨_,Ext.at hE3 hB,hr⟩,rfl⟩
 refine rgg [(2,20)] (an2 (decide_eq_false (show¬t<1 by omega)) (decide_eq_false (show¬65535<t by omega))) ?_
 refine go trivial ?_
 refine zas (Q:=fun e' σ' ds' v'=>e'= .normal∧ds'=[]∧v'=w3∧(σ' 0=vi t∧σ' 6= .pointer (some ⟨w.heap.size,0,Option.none⟩)∧σ' 8= .pointer (some ⟨w.heap.size+1,0,Option.none⟩)∧σ' 9= .pointer (some ⟨w.heap.size+2,0,Option.none⟩))∧σ' 25= .bool (zbU ws)) ?_ ?_
 ·cases ws with
  |nil=>
   refine rgg [(3,29)] (show decide ((0:Int)<(([]:List (Lab×Bool)).length:Int))=false from rfl) ?_
   exact⟨rfl,rfl,rfl,⟨vr0,vr0,vr0,vr0⟩,vr0⟩
  |cons x rest=>
   obtain⟨tx,qx⟩:=x
   obtain⟨cs0,g0,hcs⟩:=hget 0 (by simp)
   simp only[List.getElem_cons_zero,Nat.zero_mul,zan]at g0 hcs
   unfold WdC at hcs
   subst hcs
   have g:=zah hR3.ext g0
   obtain⟨xa,rfl⟩:∃x,wa=some x:=by
    cases wa with
    |none=>cases g0
    |some x=>exact⟨x,rfl⟩
   have l0:decide ((0:Int)<((((tx,qx)::rest).length:Nat):Int))=true:=decide_eq_true (by rw[List.length_cons];omega)
   have l0':(0:Int)<((((tx,qx)::rest).length:Nat):Int):=by rw[List.length_cons];omega
   refine rq ?_;intro gd K hgd hK
   have hg3:∀n σ b,zax gd n σ (some (3,b))=zap (ev n σ (.tmp 29)) b:=(fun n σ b=>by rw[zag,show gd 3=some 29 from(by rw[hgd];rfl)];rfl)
   try simp (disch:=first|omega|assumption|rfl) only[go_sem,l0,l0',Int.toNat_zero,Nat.zero_mul,zan,g,↓hg3]
   refine⟨by kernel_rfl,?_⟩
   rw[show bdV Tryz.prog 145 [(0,vs [92,35])]=some (.agg #[vs [92,35],.bool false]) from by kernel_rfl]
   try simp (disch:=first|omega|assumption|rfl) only[go_sem,l0,↓hg3]
   refine op_eqS (a:=tx) (b:=qx) (a':=[92,35]) (b':=false) rfl (by decide) (by decide) rfl rfl (by kernel_rfl) rfl rfl (by kernel_rfl) (vr0) (vr0) ?_
   try simp (disch:=first|omega|assumption|rfl) only[go_sem,l0,↓hg3]
   refine hK _ _ ?_;clear hK hgd;clear K;try clear gd
   exact⟨rfl,rfl,rfl,⟨vr0,vr0,vr0,vr0⟩,vr0⟩
 rintro _ σ1 _ w1 ⟨rfl,rfl,rfl,⟨s0,s6,s8,s9⟩,s25⟩
 have hcb:=hc _ _ hR3
 cases hm:zbU ws
 all_goals
  rw[hm]at s25 hcb
  first
   |rw[if_pos rfl]at hcb
   |rw[if_neg (by decide)]at hcb
  refine go (an5 s0 s6 s8 s9 s25) ?_
  refine rq ?_;intro gd K hgd hK
  try simp (disch:=first|omega|assumption|rfl) only[go_sem,s0,s6,s8,s9]
  refine Fn.mono hcb ?_
  rintro _ w4 ⟨⟨cs,rfl,hcs,hcs1,hg4⟩,hR4,hk4⟩
  have hs4:=hk4.size
  have hC4:=(hk4.block (w.heap.size+2) (by omega) (by omega)).trans hC
  try simp (disch:=first|omega|assumption|rfl) only[go_sem,s9]
  refine zaJ (P:=Tryz.prog) (t:=34) (l:=cs) hC4 (by simp[hcs]) hcs1 (by rw[hcs];rfl) rfl ?_
  intro w5 hs5 hC5 hk5
  try simp only[go_sem]
  refine hK _ _ ?_;clear hK hgd;clear K;try clear gd
  rw[show w1.heap.size=w.heap.size+3 by omega]at hg4
  have hG5:=hG _ _ _ _ _ hg4 hk5 fun i hi=>by omega
  have hR5:Rdr w w5 (w.heap.size+1) [] (.slice oa on oc) e:=hR4.keep hk5 fun i hi=>by omega
  obtain⟨wv5,hb5,_⟩:=hR5.at'
  have c5:zad w5 (some ⟨w.heap.size+1,2,Option.none⟩)=some (vi e):=zaa hb5 rfl
  have hA5:=(hk5.block w.heap.size (by omega) (by omega)).trans ((hk4.block w.heap.size (by omega) (by omega)).trans (Ext.at (hE2.trans hE3) hA))
  have hE5:Ext w w5:=hR5.ext
  by_cases he:e=0
  ·subst he
   have ez:decide ((0:Int)=0)=true:=rfl
   have p9:zar w5 (some ⟨w.heap.size+2,0,Option.none⟩) 5=some cs:=by
    have:=zal (n:=5) hC5 (by simp[hcs])
    exact this
   refine go (an6 s6 s8 s9 c5 ez (Nat.zero_add 2)) ?_
   refine rq ?_;intro gd K hgd hK
   try simp (disch:=first|omega|assumption|rfl) only[go_sem,s6,s9,p9]
   refine zaJ (P:=Tryz.prog) (t:=34) (l:=cs) hA5 (by rw[hcs];rfl) hcs1 (by rw[hcs];rfl) rfl ?_
   intro w6 hs6 hB6 hk6
   try simp only[go_sem]
   refine hK _ _ ?_;clear hK hgd;clear K;try clear gd
   refine go trivial ?_
   refine zaf (.inr rfl) Tryz.ntmps134 rfl (zaO (x:=⟨w.heap.size,0,Option.none⟩) (k:=5) ((vr1 s6)) rfl rfl (zal (n:=5) hB6 (by simp[hcs])) (zac (vr0) zae)) ?_
   exact⟨Keep.to_ext hE5 rfl (fun i hi=>by omega) hk6,fun _=>⟨cs,_,rfl,(by omega),hG _ _ _ _ _ hG5 hk6 fun i hi=>by omega⟩,fun h=>absurd rfl h⟩
  ·refine go (an6 s6 s8 s9 c5 (decide_eq_false he) (Nat.zero_add 2)) ?_
   refine zaR (fun _=>false) [(0,true),(1,true),(2,true),(3,true),(4,true),(5,false),(6,true)] ((fun i=>i=w.heap.size)) mixed (by kernel_rfl) ?_;intro gd K x hgd hx hxe hK;have hx0:=zaQ hxe;clear hxe
   have c5x:=zab hx0 c5
   simp (disch:=first|omega|assumption|rfl) only[go_sem]
   refine⟨by kernel_rfl,?_⟩
   rw[show bdV Tryz.prog 34 []=some (.agg #[vi 0,.slice Option.none 0 0,.slice Option.none 0 0,.slice Option.none 0 0,.slice Option.none 0 0]) from by kernel_rfl]
   simp (disch:=first|omega|assumption|rfl) only[go_sem,s6,s8,c5x,Nat.zero_add]
   refine⟨fun a ha hb'=>by cases ha;dsimp only at hb';omega,?_⟩
   refine zaJ (P:=Tryz.prog) (t:=34) (l:=[vi 0,.slice Option.none 0 0,.slice Option.none 0 0,.slice Option.none 0 0,.slice Option.none 0 0]) (Ext.at hx0 hA5) rfl (zdf _ _ _ _ _ rfl rfl rfl rfl) rfl rfl ?_
   intro w6 hs6 hB6 hk6
   refine⟨.inr hk6,?_⟩
   simp (disch:=first|omega|assumption|rfl) only[go_sem]
   refine hK _ _ ?_;clear hK hgd;clear K;try clear gd
   refine go trivial ?_
   have hE6:Ext w w6:=Keep.to_ext (hE5.trans hx0) rfl (fun i hi=>by omega) hk6
   refine zaf (.inr rfl) Tryz.ntmps134 rfl (zaO (x:=⟨w.heap.size,0,Option.none⟩) (k:=5) ((vr1 s6)) rfl rfl (zal (n:=5) hB6 rfl) (zac (vr0) zae)) ?_
   exact⟨hE6,fun h=>absurd h he,fun _=>rfl⟩
set_option maxRecDepth 100000
theorem zd6{B:Nat}{e:TypeId}{w:World}{v:Value}{l:List Value}(h:Own B w e v l):Hz (fun i=>i<B) w (fun X=>Row X v l):=fun X hX=>(h.keep hX fun i hi hs=>by have:=(h.ge hi).1;omega).row
def GD(d:DatL)(B:Nat)(cs:List Value)(w:World):Prop:=Hz (fun i=>i<B) w (fun X=>DatAt X cs d)
theorem zlu(d:DatL):∀B cs x y S,GD d B cs x→Keep S x y→(∀i,S i→i<B)→GD d B cs y:=fun B cs x y S h hk hS X hX=>h X ((hk.mono fun i _ hi=>hS i hi).trans hX)
theorem zfs{d:DatL}{B:Nat}{cs:List Value}{w:World}(h:GD d B cs w):cs.length=5∧∀x∈cs,one x=true:=by
 obtain⟨nm,nu,tx,rw',rfl,⟨vals,h1,_,_⟩,h2,h3,h4⟩:=h.now.ex
 exact⟨rfl,zdf _ _ _ _ _ h1.isOne h2.isOne h3.isOne h4.isOne⟩
theorem PkG{w:World}{t:Int}{wv:Value}{oa:Option Addr}{on oc:Nat}{ws:List (Lab×Bool)}{d:DatL}(ht1:1≤t)(ht2:t≤65535)(hr:Rows 2 WdC w wv ws)
  (hc:∀(b:Nat) (w1:World),Rdr w w1 b ws (.slice oa on oc) 0→Fn Tryz.prog (if zbU ws=true then 159 else 160) #[.pointer (some ⟨b,0,Option.none⟩),vi t] w1 (fun v w'=>(∃cs:List Value,v= .agg cs.toArray∧GD d w1.heap.size cs w')∧Rdr w w' b [] (.slice oa on oc) 0∧Keep (fun i=>i=b) w1 w')):
  Fn Tryz.prog 134 #[vi t,wv,.slice oa on oc] w (fun v w'=>Ext w w'∧∃cs:List Value,v= .tuple #[.agg cs.toArray,vi 0]∧GD d w.heap.size cs w'):=by
 refine Fn.mono (zfr (e:=0) (G:=GD d) ht1 ht2 hr (zlu d) (fun b w1 h=>Fn.mono (hc b w1 h) ?_)) ?_
 ·rintro v w' ⟨⟨cs,rfl,hg⟩,h2⟩
  exact⟨⟨cs,rfl,(zfs hg).1,(zfs hg).2,hg⟩,h2⟩
 ·rintro v w' ⟨hE,h0,_⟩
  obtain⟨cs,B,rfl,hB,hg⟩:=h0 rfl
  exact⟨hE,cs,rfl,fun X hX=>hg X (hX.mono fun i _ h=>by omega)⟩
set_option maxRecDepth 10000
def zcM(l:Lab):Bool:=match l with
 |c::_=>decide (c=32)||decide (c=9)
 | []=>false
def zkL(n:Nat)(x:Lab×List (Lab×Bool)):List EntL:=if x.2=[] then [] else [⟨n,zcM x.1,x.2⟩]
def entF(n:Nat):List (Lab×List (Lab×Bool))→List EntL
 | []=>[]
 |x::xs=>zkL n x++entF (n+1) xs
theorem zik:∀(n:Nat) (xs ys:List (Lab×List (Lab×Bool))),entF n (xs++ys)=entF n xs++entF (n+xs.length) ys
 |n,[],ys=>rfl
 |n,x::xs,ys=>by
  rw[List.cons_append,entF,entF,zik (n+1) xs ys,List.append_assoc,List.length_cons,show n+1+xs.length=n+(xs.length+1) by omega]
theorem zfW:∀(n:Nat) (xs:List (Lab×List (Lab×Bool))),(entF n xs).length≤xs.length
 |n,[]=>Nat.le_refl _
 |n,x::xs=>by
  have:=zfW (n+1) xs
  rw[entF,List.length_append,List.length_cons]
  unfold zkL
  split<;>simp<;>omega
theorem zkb:∀(ls:List Lab) (n:Nat) (pre suf:List (Nat×Lab)) (x:Nat×Lab),numL n ls=pre++x::suf→∃h:pre.length<ls.length,x=(n+pre.length,ls[pre.length])
 | [],n,pre,suf,x,h=>by simp[numL]at h
 |l::ls,n,[],suf,x,h=>by
  injection h with h1 _
  exact⟨by simp,h1.symm⟩
 |l::ls,n,p::pre,suf,x,h=>by
  injection h with _ h2
  obtain⟨h3,h4⟩:=zkb ls (n+1) pre suf x h2
  refine⟨by simpa using h3,?_⟩
  rw[h4]
  simp
  omega
theorem zfK:∀(ls:List Lab) (n:Nat),(numL n ls).length=ls.length
 | [],_=>rfl
 |l::ls,n=>by rw[numL,List.length_cons,zfK ls,List.length_cons]
theorem TR.rows{B b:Nat}{w:World}{out:List EntL}{nl ln:Int}{nb bg:Bool}{nw:List (Lab×Bool)}{ov wv:Value}{G:List (EntL×List Value)}(h:TR B w b out nl nb nw ln bg ov wv G):Rows 3 (EntC w) w ov out:=by
 obtain⟨L,k1,k2,k3⟩:=h.oo.rows
 rw[h.ol]
 refine⟨L,k1,by rw[k2,List.length_map],fun i hi hi'=>?_⟩
 have hi2:i<G.length:=by omega
 rw[(k3 i hi hi2).1,List.getElem_map]
 obtain⟨v,e,h1,_⟩:=h.fr _ (List.getElem_mem hi2)
 exact⟨v,e,h1⟩
structure LnsOk(xs:List (Lab×List (Lab×Bool))):Prop where
 each:∀x∈xs,Toks x.1 x.2∧ze3 x.1∧x.1.length≤100000000
 len:(zaF (xs.map Prod.fst)).length≤3900000000
 few:xs.length≤1000000000
theorem zjh{w:World}(hX:WX w){xs:List (Lab×List (Lab×Bool))}(hx:LnsOk xs):Fn Tryz.prog 59 #[vs (zaF (xs.map Prod.fst))] w (fun v w'=>Ext w w'∧∃ev,v= .tuple #[ev,vi 0,vi 0]∧(∀a n c,ev= .slice (some a) n c→w.heap.size≤a.block)∧Hz (fun i=>i<w.heap.size) w' (fun X=>Rows 3 (EntC X) X ev (entF 1 xs))):=by
 obtain⟨s,hs⟩:∃s,zaF (xs.map Prod.fst)=s:=⟨_,rfl⟩
 have hfew:=hx.few
 have hsl:s.length≤3900000000:=hs▸hx.len
 rw[hs]
 refine enter Tryz.func59 Tryz.ntmps59 rfl rfl ?_
 refine go trivial ?_
 refine zf4 ?_
 intro w1 hE1 hs1 hA hB hC
 obtain⟨A,hAe⟩:∃A,w.heap.size=A:=⟨_,rfl⟩
 simp only[World.size_alloc]
 rw[hAe]at hA hB hC ⊢
 refine go trivial ?_
 refine rq ?_;intro gd K hgd hK
 try simp only[go_sem]
 refine⟨by kernel_rfl,?_⟩
 rw[show bdV Tryz.prog 139 []=some (.agg #[.slice Option.none 0 0,vi 0,.bool false,.slice Option.none 0 0,vi 0,.bool false,.slice Option.none 0 0]) from by kernel_rfl]
 try simp only[go_sem]
 simp only[World.size_alloc]
 refine st_al2 ?_
 intro z1 hz1 hzs hR hP
 have hw1:w1.heap.size=A+3:=by omega
 rw[hw1]at hR hP ⊢
 refine zaq (P:=Tryz.prog) rfl rfl rfl hP (by simp) (by simp) ?_
 intro w2 hs2 hP2 hk2
 try simp only[go_sem]
 refine hK _ _ ?_;clear hK hgd;clear K;try clear gd
 have hE2:Ext w1 w2:=Keep.to_ext hz1 rfl (fun i hi=>by omega) hk2
 have hR2:=(hk2.block (A+3) (by omega) (by omega)).trans hR
 have hw2:w2.heap.size=A+5:=by omega
 have e9:w1.heap.size+1=A+4:=by omega
 simp only[World.size_alloc,e9,hw1]
 refine go trivial ?_
 refine rc trivial (zlj w2 s) ?_
 rintro _ w3 ⟨rfl,hE3,hs3,hL3⟩
 rw[hw2]at hL3 ⊢
 have hw3:w3.heap.size=A+6:=by omega
 have hE13:=(hE1.trans hE2).trans hE3
 have hA3:=Ext.at (hE2.trans hE3) hA
 have hB3:=Ext.at (hE2.trans hE3) hB
 have hC3:=Ext.at (hE2.trans hE3) hC
 have hR3:=Ext.at hE3 hR2
 have hP3:=Ext.at hE3 hP2
 refine rgo trivial ?_
 refine W_rangeT (g:=99) (cap:=#[.pointer (some ⟨A+5,0,Option.none⟩)]) (vq0) rfl (linesIt (w0:=w) (C:=fun i=>i=A+3) (ls:=xs.map Prod.fst) hX hE13 (by rw[hs];exact hL3) (by omega) (by omega) (fun i hi=>by omega) (by omega) (fun l hl=>by
   obtain⟨x,hxm,rfl⟩:=List.mem_map.1 hl
   exact(hx.each x hxm).2.1) (by rw[hs];exact hsl) (by rw[List.length_map];exact hfew)) (Keep.refl _ _) (Nat.le_refl _) (fun i hi=>by omega) (fun i hi=>by omega)
  (fun x B args h=>by rw[show args=_ from h];rfl)
  (fun pre V=>(V.heap[A]? =some (.cells #[.slice Option.none 0 0] 110 (0,0))∧V.heap[A+1]? =some (.cells #[vi 0] 3 (0,0))∧V.heap[A+1+1]? =some (.cells #[vi 0] 57 (0,0))∧V.heap[A+4]? =some (.cells #[.pointer (some ⟨A+3,0,Option.none⟩)] 137 (0,0)))∧Keep (fun i=>i=A+3∨i=A+5∨A+6≤i) w3 V∧
   ((pre=[]∧V.heap[A+3]? =some (.cells #[.slice Option.none 0 0,vi 0,.bool false,.slice Option.none 0 0,vi 0,.bool false,.slice Option.none 0 0] 139 (0,0)))∨∃ln,TRx (A+8) V (A+3) (entF 1 (xs.take pre.length)) 0 false [] ln false))
  (fun _ _ _=>False) ?_ (fun _ _ _ _ h _=>h.elim) ?_ ?_ ?_ (fun _ _ _ _ _ _ h _=>h.elim)
 ·rintro pre V V' ⟨⟨h1,h2,h3,h4⟩,h5,h6⟩ hk
  have lt:=fun {i:Nat} {o:Obj} (h:V.heap[i]? =some o)=>(Array.getElem?_eq_some_iff.1 h).1
  have kp:∀{i:Nat} {o:Obj},V.heap[i]? =some o→i<A+5→V'.heap[i]? =some o:=fun {i o} h hi=>(hk.block i (lt h) (by unfold span;omega)).trans h
  refine⟨⟨kp h1 (by omega),kp h2 (by omega),kp h3 (by omega),kp h4 (by omega)⟩,h5.trans (hk.mono fun i _ h=>by unfold span at h;omega),?_⟩
  rcases h6 with ⟨h6,h7⟩| ⟨ln,ov,wv,G,h6⟩
  ·exact .inl ⟨h6,kp h7 (by omega)⟩
  ·exact .inr ⟨ln,ov,wv,G,h6.low (hk.mono fun i _ h=>by unfold span at h;omega)⟩
 ·exact⟨⟨hA3,hB3,hC3,hP3⟩,Keep.refl _ _,.inl ⟨rfl,hR3⟩⟩
 ·rintro lp pre ⟨n,l⟩ V args ⟨suf,hsf⟩ hszV ⟨⟨h1,h2,h3,h4⟩,h5,h6⟩ hargs
  obtain⟨hpl,hxe⟩:=zkb _ _ _ _ _ hsf
  rw[List.length_map]at hpl
  injection hxe with hn hle
  rw[List.getElem_map]at hle
  obtain⟨x,hxx⟩:∃x,xs[pre.length]=x:=⟨_,rfl⟩
  rw[hxx]at hle
  obtain⟨hT,_,hll⟩:=hx.each x (hxx▸List.getElem_mem hpl)
  obtain rfl:args=#[vi (n:Nat),vs l]:=hargs
  have hout:entF 1 (xs.take (pre.length+1))=entF 1 (xs.take pre.length)++zkL n x:=by
   rw[zai hpl,zik,hxx,List.length_take,Nat.min_eq_left (by omega),←hn,entF,entF,List.append_nil]
  have hol:(entF 1 (xs.take pre.length)).length≤1000000000:=by
   have:=zfW 1 (xs.take pre.length)
   rw[List.length_take]at this
   omega
  refine go trivial ?_
  refine⟨rfl,KeepB.refl _ _ _,fun V2 hV2=>?_⟩
  have lt:=fun {i:Nat} {o:Obj} (h:V.heap[i]? =some o)=>(Array.getElem?_eq_some_iff.1 h).1
  have hs22:=hV2.size
  have kp:∀{i:Nat} {o:Obj},V.heap[i]? =some o→i<A+5→V2.heap[i]? =some o:=fun {i o} h hi=>(hV2.block i (lt h) (by unfold two;omega)).trans h
  obtain⟨ln,ov,wv,G,hTR⟩:∃ln,TRx (A+8) V2 (A+3) (entF 1 (xs.take pre.length)) 0 false [] ln false:=by
   rcases h6 with ⟨h6,h7⟩| ⟨ln,ov,wv,G,h6⟩
   ·refine⟨0,.slice Option.none 0 0,.slice Option.none 0 0,[],kp h7 (by omega),by omega,by omega,Owns.nil _ _ _ _ _,Owns.nil _ _ _ _ _,fun i h=>(by cases h),?_,fun y hy=>(by cases hy)⟩
    rw[h6];rfl
   ·exact⟨ln,ov,wv,G,h6.low (hV2.mono fun i _ h=>by unfold two at h;omega)⟩
  have g4:=kp h4 (by omega)
  have q40:zad V2 (some ⟨A+4,0,Option.none⟩)=some (.pointer (some ⟨A+3,0,Option.none⟩)):=zaa g4 rfl
  refine go trivial ?_
  refine rq ?_;intro gd K hgd hK
  try simp (disch:=first|omega|assumption|rfl) only[go_sem,q40,Nat.zero_add]
  refine zaq (P:=Tryz.prog) rfl rfl rfl hTR.h (by simp) (by simp) ?_
  intro v1 hs1' hb1 hk1
  try simp only[go_sem]
  refine hK _ _ ?_;clear hK hgd;clear K;try clear gd
  have hT1:TR (A+8) v1 (A+3) (entF 1 (xs.take pre.length)) 0 false [] n false ov wv G:=TR.turn hTR (hk1.mono fun i _ e=>by omega) hb1
  have hV2l:=(Array.getElem?_eq_some_iff.1 g4).1
  have q41:zad v1 (some ⟨A+4,0,Option.none⟩)=some (.pointer (some ⟨A+3,0,Option.none⟩)):=zaa ((hk1.block (A+4) hV2l (by omega)).trans g4) rfl
  have k5:zad v1 (some ⟨A+3,5,Option.none⟩)=some (.bool false):=zaa hT1.h rfl
  refine go (an4 q41 k5 Nat.zero_add Bool.not_false) ?_
  refine rq ?_;intro gd K hgd hK
  try simp (disch:=first|omega|assumption|rfl) only[go_sem,q41,Nat.zero_add]
  refine zaq (P:=Tryz.prog) rfl rfl rfl hT1.h (by simp) (by simp) ?_
  intro v2 hs2' hb2 hk2'
  try simp only[go_sem]
  refine hK _ _ ?_;clear hK hgd;clear K;try clear gd
  have hT2:TR (A+8) v2 (A+3) (entF 1 (xs.take pre.length)) 0 false [] n true ov wv G:=TR.turn hT1 (hk2'.mono fun i _ e=>by omega) hb2
  have g42:=(hk2'.block (A+4) (by omega) (by omega)).trans ((hk1.block (A+4) hV2l (by omega)).trans g4)
  have q42:zad v2 (some ⟨A+4,0,Option.none⟩)=some (.pointer (some ⟨A+3,0,Option.none⟩)):=zaa g42 rfl
  refine go trivial ?_
  refine zas (Q:=fun e' σ' ds' v'=>e'= .normal∧ds'=[]∧(σ' 5= .pointer (some ⟨A+4,0,Option.none⟩)∧σ' 7=vs l)∧TR (A+8) v' (A+3) (entF 1 (xs.take pre.length)) 0 (zcM l) [] n true ov wv G∧Keep (fun i=>i=A+3) v2 v') ?_ ?_
  ·have i00:(0:Int)≤0:=by decide
   cases hlc:l with
   |nil=>
    have dn:decide (([]:Lab)=[])=true:=rfl
    refine zaR (fun i=>i==16) [(0,true),(1,true),(2,true),(3,true),(4,true),(5,true),(6,true),(7,true),(8,true),(9,true),(10,true),(11,true),(12,true),(13,true),(14,true),(15,true),(16,false)] NoS mixed (by kernel_rfl) ?_;intro gd K x hgd hx hxe hK;have hx0:=zaQ hxe;clear hxe
    have hg3:∀n σ b,zax gd n σ (some (3,b))=zap (ev n σ (.tmp 30)) b:=(fun n σ b=>by rw[zag,show gd 3=some 30 from(by rw[hgd];rfl)];rfl);have hg7:∀n σ b,zax gd n σ (some (7,b))=zap (ev n σ (.tmp 34)) b:=(fun n σ b=>by rw[zag,show gd 7=some 34 from(by rw[hgd];rfl)];rfl)
    have q4x:=zab hx0 q42
    have hTx:=hT2.ext hx0
    simp (disch:=first|omega|assumption|rfl) only[go_sem,q4x,Nat.zero_add,dn,ze7,↓hg3,↓hg7]
    refine zaq (P:=Tryz.prog) rfl rfl rfl hTx.h (by simp) (by simp) ?_
    intro v3 hs3' hb3 hk3
    refine⟨.inl rfl,?_⟩
    simp (disch:=first|omega|assumption|rfl) only[go_sem,↓hg3,↓hg7]
    refine hK _ _ ?_;clear hK hgd;clear K;try clear gd
    exact⟨rfl,rfl,⟨vr0,vr0⟩,TR.turn hTx (hk3.mono fun i _ e=>by omega) hb3,(hx0.mono fun _ _ h=>h.elim).trans hk3⟩
   |cons c r=>
    have dn:decide (c::r=[])=false:=rfl
    have r0:(0:Int)<((c::r).length:Int):=by rw[List.length_cons];omega
    have o32:decide ((c.toNat:Int)=32)=decide (c=32):=zj7 c 32 (by decide)
    have o9:decide ((c.toNat:Int)=9)=decide (c=9):=zj7 c 9 (by decide)
    have hin:(0:Int).toNat<(c::r).length:=by simp
    have hb9:(c::r)[(0:Int).toNat]'hin=c:=rfl
    have hbc:zao c= .int .u8 (c.toNat:Int):=rfl
    by_cases h32:c=32
    ·have hbl:zcM (c::r)=true:=by show(decide (c=32)||decide (c=9))=_;rw[decide_eq_true h32];rfl
     have d32:decide ((c.toNat:Int)=32)=true:=by rw[o32];exact decide_eq_true h32
     rw[hbl]
     refine zaR (fun i=>i==16) [(0,true),(1,true),(2,true),(3,true),(4,true),(5,true),(6,true),(7,true),(8,true),(9,true),(10,true),(11,true),(12,true),(13,true),(14,true),(15,true),(16,false)] NoS mixed (by kernel_rfl) ?_;intro gd K x hgd hx hxe hK;have hx0:=zaQ hxe;clear hxe
     have hg3:∀n σ b,zax gd n σ (some (3,b))=zap (ev n σ (.tmp 30)) b:=(fun n σ b=>by rw[zag,show gd 3=some 30 from(by rw[hgd];rfl)];rfl);have hg7:∀n σ b,zax gd n σ (some (7,b))=zap (ev n σ (.tmp 34)) b:=(fun n σ b=>by rw[zag,show gd 7=some 34 from(by rw[hgd];rfl)];rfl)
     have q4x:=zab hx0 q42
     have hTx:=hT2.ext hx0
     simp (disch:=first|omega|assumption|rfl) only[go_sem,q4x,Nat.zero_add,dn,i00,r0,hb9,hbc,d32,↓hg3,↓hg7]
     refine zaq (P:=Tryz.prog) rfl rfl rfl hTx.h (by simp) (by simp) ?_
     intro v3 hs3' hb3 hk3
     refine⟨.inl rfl,?_⟩
     simp (disch:=first|omega|assumption|rfl) only[go_sem,↓hg3,↓hg7]
     refine hK _ _ ?_;clear hK hgd;clear K;try clear gd
     exact⟨rfl,rfl,⟨vr0,vr0⟩,TR.turn hTx (hk3.mono fun i _ e=>by omega) hb3,(hx0.mono fun _ _ h=>h.elim).trans hk3⟩
    ·have d32:decide ((c.toNat:Int)=32)=false:=by rw[o32];exact decide_eq_false h32
     obtain⟨z,hz⟩:∃z,decide (c=9)=z:=⟨_,rfl⟩
     have d9:decide ((c.toNat:Int)=9)=z:=by rw[←hz];exact o9
     have hbl:zcM (c::r)=z:=by show(decide (c=32)||decide (c=9))=_;rw[decide_eq_false h32,hz];rfl
     rw[hbl]
     cases z with
     |true=>
      refine zaR (fun i=>i==16) [(0,true),(1,true),(2,true),(3,true),(4,true),(5,true),(6,true),(7,true),(8,true),(9,true),(10,true),(11,true),(12,true),(13,true),(14,true),(15,true),(16,false)] NoS mixed (by kernel_rfl) ?_;intro gd K x hgd hx hxe hK;have hx0:=zaQ hxe;clear hxe
      have hg3:∀n σ b,zax gd n σ (some (3,b))=zap (ev n σ (.tmp 30)) b:=(fun n σ b=>by rw[zag,show gd 3=some 30 from(by rw[hgd];rfl)];rfl);have hg7:∀n σ b,zax gd n σ (some (7,b))=zap (ev n σ (.tmp 34)) b:=(fun n σ b=>by rw[zag,show gd 7=some 34 from(by rw[hgd];rfl)];rfl)
      have q4x:=zab hx0 q42
      have hTx:=hT2.ext hx0
      simp (disch:=first|omega|assumption|rfl) only[go_sem,q4x,Nat.zero_add,dn,i00,r0,hb9,hbc,d32,d9,↓hg3,↓hg7]
      refine zaq (P:=Tryz.prog) rfl rfl rfl hTx.h (by simp) (by simp) ?_
      intro v3 hs3' hb3 hk3
      refine⟨.inl rfl,?_⟩
      simp (disch:=first|omega|assumption|rfl) only[go_sem,↓hg3,↓hg7]
      refine hK _ _ ?_;clear hK hgd;clear K;try clear gd
      exact⟨rfl,rfl,⟨vr0,vr0⟩,TR.turn hTx (hk3.mono fun i _ e=>by omega) hb3,(hx0.mono fun _ _ h=>h.elim).trans hk3⟩
     |false=>
      refine zaR (fun i=>i==16) [(0,true),(1,true),(2,true),(3,true),(4,true),(5,true),(6,true),(7,true),(8,true),(9,true),(10,true),(11,true),(12,true),(13,true),(14,true),(15,true),(16,false)] NoS mixed (by kernel_rfl) ?_;intro gd K x hgd hx hxe hK;have hx0:=zaQ hxe;clear hxe
      have hg3:∀n σ b,zax gd n σ (some (3,b))=zap (ev n σ (.tmp 30)) b:=(fun n σ b=>by rw[zag,show gd 3=some 30 from(by rw[hgd];rfl)];rfl);have hg7:∀n σ b,zax gd n σ (some (7,b))=zap (ev n σ (.tmp 34)) b:=(fun n σ b=>by rw[zag,show gd 7=some 34 from(by rw[hgd];rfl)];rfl)
      have q4x:=zab hx0 q42
      have hTx:=hT2.ext hx0
      simp (disch:=first|omega|assumption|rfl) only[go_sem,q4x,Nat.zero_add,dn,i00,r0,hb9,hbc,d32,d9,↓hg3,↓hg7]
      refine zaq (P:=Tryz.prog) rfl rfl rfl hTx.h (by simp) (by simp) ?_
      intro v3 hs3' hb3 hk3
      refine⟨.inl rfl,?_⟩
      simp (disch:=first|omega|assumption|rfl) only[go_sem,↓hg3,↓hg7]
      refine hK _ _ ?_;clear hK hgd;clear K;try clear gd
      exact⟨rfl,rfl,⟨vr0,vr0⟩,TR.turn hTx (hk3.mono fun i _ e=>by omega) hb3,(hx0.mono fun _ _ h=>h.elim).trans hk3⟩
  rintro _ σ1 _ v3 ⟨rfl,rfl,⟨s5,s7⟩,hT3,hk3⟩
  have hs3':=hk3.size
  have g43:=(hk3.block (A+4) (by omega) (by omega)).trans g42
  have q43:zad v3 (some ⟨A+4,0,Option.none⟩)=some (.pointer (some ⟨A+3,0,Option.none⟩)):=zaa g43 rfl
  rw[hle]at s7
  have hT':Toks l x.2:=by rw[hle];exact hT
  rw[←hle]at s7
  refine go (an2 s5 s7) ?_
  refine rc (an3 s5 s7 q43) (read_ok ⟨ov,wv,G,hT3⟩ hT' (by rw[hle];exact hll)) ?_
  rintro _ v4 ⟨rfl,hR4,hk4⟩
  have hs4':=hk4.size
  have g44:=(hk4.block (A+4) (by omega) (by omega)).trans g43
  have q44:zad v4 (some ⟨A+4,0,Option.none⟩)=some (.pointer (some ⟨A+3,0,Option.none⟩)):=zaa g44 rfl
  have hR4':=hR4
  obtain⟨ov4,wv4,G4,hT4⟩:=hR4
  have k6:zad v4 (some ⟨A+3,6,Option.none⟩)=some (.slice Option.none 0 0):=zaa hT4.h rfl
  refine rgo (an6 s5 s7 (show decide ((0:Int)=0)=true from rfl) q44 k6 Nat.zero_add) ?_
  have hwl:=zft hT
  refine rc (an2 s5 q44) (end_ok hR4' hol (by omega)) ?_
  rintro _ v5 ⟨hR5,hk5⟩
  have hs5':=hk5.size
  refine rgo trivial ?_
  have hkk:Keep (fun i=>i=A+3∨A+8≤i) V2 v5:=(((((hk1.mono fun i _ e=> .inl e).trans (hk2'.mono fun i _ e=> .inl e)).trans (hk3.mono fun i _ e=> .inl e)).trans hk4).trans hk5)
  have kq:∀{i:Nat} {o:Obj},V.heap[i]? =some o→i<A+5→i≠A+3→v5.heap[i]? =some o:=fun {i o} h h1 h2=>(hkk.block i (by have:=(Array.getElem?_eq_some_iff.1 (kp h h1)).1;exact this) (by omega)).trans (kp h h1)
  refine⟨⟨⟨kq h1 (by omega) (by omega),kq h2 (by omega) (by omega),kq h3 (by omega) (by omega),kq h4 (by omega) (by omega)⟩,(h5.trans (hV2.mono fun i _ h=>by unfold two at h;omega)).trans (hkk.mono fun i _ h=>by omega),.inr ⟨n,?_⟩⟩,hkk.toB (by omega) fun i hi h=>by omega⟩
  have hfin:(if x.2=[] then entF 1 (xs.take pre.length) else entF 1 (xs.take pre.length)++ [⟨if x.2=[] then 0 else(n:Int),zcM l,x.2⟩])=entF 1 (xs.take (pre++ [(n,l)]).length):=by
   rw[List.length_append,show([(n,l)]:List (Nat×Lab)).length=1 from rfl,hout]
   unfold zkL
   by_cases h0:x.2=[]
   ·rw[if_pos h0,if_pos h0,List.append_nil]
   ·rw[if_neg h0,if_neg h0,if_neg h0,hle]
  rw[←hfin]
  exact hR5
 ·rintro xs' w6 rfl hsz6 ⟨⟨h1,h2,h3,h4⟩,h5,h6⟩ hD
  have q4:zad w6 (some ⟨A+4,0,Option.none⟩)=some (.pointer (some ⟨A+3,0,Option.none⟩)):=zaa h4 rfl
  obtain⟨ov,y1,y2,y3,y4,y5,hR6,h1v,hblk,hfin⟩:∃ov y1 y2 y3 y4 y5,w6.heap[A+3]? =some (.cells #[ov,y1,y2,y3,y4,y5,.slice Option.none 0 0] 139 (0,0))∧one ov=true∧(∀a n c,ov= .slice (some a) n c→A≤a.block)∧∀X,Keep (fun i=>i<A+8∧i≠A+3) w6 X→Rows 3 (EntC X) X ov (entF 1 xs):=by
   rcases h6 with ⟨h6,h7⟩| ⟨ln,ov,wv,G,h6⟩
   ·have hx0:xs=[]:=by
     have:=congrArg List.length h6
     rw[zfK,List.length_map]at this
     exact List.length_eq_zero_iff.1 this
    refine⟨_,_,_,_,_,_,h7,rfl,(fun a n c h=>by cases h),fun X _=>?_⟩
    rw[hx0]
    exact Rows.nil _ _ _
   ·rw[zfK,List.length_map,List.take_length]at h6
    have h1v:one ov=true:=by rcases h6.oo.cases with ⟨e,_⟩| ⟨_,_,_,e,_⟩<;>rw[e]<;>rfl
    exact⟨_,_,_,_,_,_,h6.h,h1v,(fun a n c h=>by have:=(h6.oo.ge (b:=a.block) (by rw[h];rfl)).1;omega),fun X hX=>(h6.low hX).rows⟩
  have k6:zad w6 (some ⟨A+3,6,Option.none⟩)=some (.slice Option.none 0 0):=zaa hR6 rfl
  have k0:zad w6 (some ⟨A+3,0,Option.none⟩)=some ov:=zaa hR6 rfl
  have lt:=fun {i:Nat} {o:Obj} (h:w6.heap[i]? =some o)=>(Array.getElem?_eq_some_iff.1 h).1
  have l3:=lt hR6
  have lD:=lt hD
  refine go (an4 q4 k6 Nat.zero_add (show decide ((0:Int)<((0:Nat):Int))=false from rfl)) ?_
  refine rq ?_;intro gd K hgd hK
  try simp (disch:=first|omega|assumption|rfl) only[go_sem,q4,k0,Nat.zero_add]
  refine zaq (P:=Tryz.prog) rfl rfl h1v h1 (by simp) (by simp) ?_
  intro z1 hz1 hb1 hk1
  try simp only[go_sem]
  refine zaq (P:=Tryz.prog) rfl rfl rfl ((hk1.block (A+1) (lt h2) (by omega)).trans h2) (by simp) (by simp) ?_
  intro z2 hz2 hb2 hk2
  try simp only[go_sem]
  refine zaq (P:=Tryz.prog) rfl rfl rfl ((hk2.block (A+1+1) (by have:=lt h3;omega) (by omega)).trans ((hk1.block (A+1+1) (lt h3) (by omega)).trans h3)) (by simp) (by simp) ?_
  intro z3 hz3 hb3 hk3
  try simp only[go_sem]
  refine hK _ _ ?_;clear hK hgd;clear K;try clear gd
  have hkz:Keep (fun i=>A≤i∧i<A+3) w6 z3:=((hk1.mono fun i _ e=>by omega).trans (hk2.mono fun i _ e=>by omega)).trans (hk3.mono fun i _ e=>by omega)
  have g1:z3.heap[A]? =some (.cells #[ov] 110 (0,0)):=(hk3.block A (by omega) (by omega)).trans ((hk2.block A (by omega) (by omega)).trans hb1)
  have g2:z3.heap[A+1]? =some (.cells #[vi 0] 3 (0,0)):=(hk3.block (A+1) (by omega) (by omega)).trans hb2
  refine go trivial ?_
  refine zc1 (.inr rfl) Tryz.ntmps59 rfl ((hkz.block _ lD (by omega)).trans hD) ?_
  intro Z hkZ hsZ
  have e1:zad Z (some ⟨A,0,Option.none⟩)=some ov:=zaa ((hkZ.block A (by omega) (by omega)).trans g1) rfl
  have e2:zad Z (some ⟨A+1,0,Option.none⟩)=some (vi 0):=zaa ((hkZ.block (A+1) (by omega) (by omega)).trans g2) rfl
  have e3:zad Z (some ⟨A+1+1,0,Option.none⟩)=some (vi 0):=zaa ((hkZ.block (A+1+1) (by omega) (by omega)).trans hb3) rfl
  refine⟨_,zcn (vr0) rfl rfl e1 (zcn (vr0) rfl rfl e2 (zcn (vr0) rfl rfl e3 zae)),?_⟩
  refine⟨Keep.to_ext (Keep.to_ext (Keep.to_ext hE13 rfl (fun i hi=>by omega) h5) rfl (fun i hi=>by omega) hkz) rfl (fun i hi=>by omega) hkZ,ov,rfl,hblk,fun X hX=>?_⟩
  have e1:Keep (fun i=>i<A+8∧i≠A+3) w6 z3:=hkz.mono fun i _ e=>by omega
  have e2:Keep (fun i=>i<A+8∧i≠A+3) z3 Z:=hkZ.mono fun i _ (e:i=w3.heap.size)=>by omega
  have e3:Keep (fun i=>i<A+8∧i≠A+3) Z X:=hX.mono fun i _ (e:i<A)=>by omega
  exact hfin X ((e1.trans e2).trans e3)
def wF:Bool→Lab→Lab→Bool→List (Lab×Bool)
 |_,[],w,_=>if w=[] then [] else [(w,false)]
 |true,c::s,w,q=>wF false s (w++ [c]) q
 |false,c::s,w,q=>
  if c=92∧s≠ [] then wF true s (w++ [c]) q
  else if c=34 then(if q=true then(w,true)::wF false s [] false else wF false s w true)
  else if q=true then wF false s (w++ [c]) true
  else if c=32 then(if w=[] then wF false s [] false else(w,false)::wF false s [] false)
  else wF false s (w++ [c]) false
theorem ziK(sep:Lab){ls:List Lab}{i:Nat}(h:i<ls.length):zaL sep (ls.take (i+1))=(if 0<i then zaL sep (ls.take i)++sep else zaL sep (ls.take i))++ls[i]:=by
 cases ls with
 |nil=>simp at h
 |cons x r=>
  cases i with
  |zero=>simp[zaL]
  |succ j=>
   rw[if_pos (by omega)]
   have hj:j<r.length:=by simpa using h
   rw[List.take_succ_cons,List.take_succ_cons]
   show x++(r.take (j+1)).flatMap (fun y=>sep++y)=(x++(r.take j).flatMap fun y=>sep++y)++sep++r[j]
   rw[zai hj,List.flatMap_append]
   simp
theorem zkr{sep:Lab}{ls:List Lab}(hs:sep.length≤100)(hl:ls.length≤1000000)(ht:zau ls≤1000000000000)(i:Nat):(zaL sep (ls.take i)).length≤2000000000000:=by
 have h1:=zb3 sep (ls.take i)
 have h2:=zc4 (xs:=ls) i
 have h3:(ls.take i).length≤1000000:=by rw[List.length_take];omega
 have h4:sep.length*(ls.take i).length≤100*1000000:=Nat.mul_le_mul hs h3
 omega
theorem zde{w:World}{lv:Value}{ls:List Lab}(hr:Row w lv (ls.map vs)){sep:Lab}(hs:sep.length≤100)(hl:ls.length≤1000000)(ht:zau ls≤1000000000000):
  Fn Tryz.prog 56 #[lv,vs sep] w (fun v w'=>v=vs (zaL sep ls)∧Ext w w'):=by
 obtain⟨a,c,rfl,hg⟩:=zbw hr
 refine enter Tryz.func56 Tryz.ntmps56 rfl rfl ?_
 refine go trivial ?_
 refine za3 ls.length (fun i σ v=>(σ 0= .slice a ls.length c∧σ 1=vs sep∧σ 5=vs (zaL sep (ls.take i))∧σ 6=vi i)∧Ext w v) ?_ ?_ ?_
 ·exact⟨⟨vr0,vr0,vr0,vr0⟩,Keep.refl _ _⟩
 ·rintro i σ v hi ⟨r1,r2,r3,r4⟩ ⟨⟨s0,s1,s5,s6⟩,hE⟩
  obtain⟨x,rfl,g0⟩:=hg i hi
  have g:=zab hE g0
  obtain⟨t,htt⟩:∃t,ls[i]=t:=⟨_,rfl⟩
  have hjt:=ziK sep hi
  have hm:=zkr hs hl ht i
  have hlt:zau (ls.take (i+1))=zau (ls.take i)+t.length:=by rw[zdY hi,htt]
  have hle:=zc4 (xs:=ls) (i+1)
  rw[htt]at g hjt
  have a1:(zaL sep (ls.take i)).length+sep.length≤9223372036854775807:=by omega
  have a2:(zaL sep (ls.take i)++sep).length+t.length≤9223372036854775807:=by rw[List.length_append];omega
  have a3:(zaL sep (ls.take i)).length+t.length≤9223372036854775807:=by omega
  by_cases h0:0<i
  ·rw[if_pos h0]at hjt
   have d0:decide ((0:Int)<(i:Int))=true:=decide_eq_true (by omega)
   refine go (an9 s0 s1 s5 s6 d0 r1 (an6 r2 r3 r4 g a1 a2) trivial trivial) ?_
   exact⟨rfl,⟨(vq1 s0),(vq1 s1),by rw[hjt];first| (simp only[go_sem];done)| (simp only[go_sem];rfl),(vq1 r4)⟩,hE⟩
  ·rw[if_neg h0]at hjt
   have d0:decide ((0:Int)<(i:Int))=false:=decide_eq_false (by omega)
   refine go (an9 s0 s1 s5 s6 d0 r1 (an6 r2 r3 r4 g a3 trivial) trivial trivial) ?_
   exact⟨rfl,⟨(vq1 s0),(vq1 s1),by rw[hjt];first| (simp only[go_sem];done)| (simp only[go_sem];rfl),(vq1 r4)⟩,hE⟩
 ·rintro σ v r ⟨⟨s0,s1,s5,s6⟩,hE⟩
  refine go (an5 s0 s1 s5 s6 r) ?_
  refine rt1 s5 Tryz.ntmps56 ?_
  exact⟨by rw[List.take_length],hE⟩
theorem zjP{l:Lab}{i:Nat}(h:i<l.length):34::quoL (l.take (i+1))=(34::quoL (l.take i))++quoB l[i]:=by
 rw[zai h]
 unfold quoL
 rw[List.flatMap_append]
 simp
theorem zjd(w:World)(l:Lab)(hl:l.length≤1000000000):Fn Tryz.prog 58 #[vs l] w (fun v w'=>v=vs (quoT l)∧Ext w w'):=by
 refine enter Tryz.func58 Tryz.ntmps58 rfl rfl ?_
 refine go trivial ?_
 refine za3 l.length (fun i σ v=>(σ 0=vs l∧σ 3=vs (34::quoL (l.take i))∧σ 4=vi i)∧Ext w v) ?_ ?_ ?_
 ·exact⟨⟨vr0,vr0,vr0⟩,Keep.refl _ _⟩
 ·rintro i σ v hi ⟨r1,r2,r3,r4⟩ ⟨⟨s0,s3,s4⟩,hE⟩
  obtain⟨c,hc⟩:∃c,l[i]=c:=⟨_,rfl⟩
  have htk:=zjP hi
  rw[hc]at htk
  have hql:=zb0 (l.take i)
  rw[List.length_take]at hql
  have hsl:(l.drop i).take (i+1 - i)=[c]:=by
   rw[List.drop_eq_getElem_cons hi,hc,show i+1 - i=1 from by omega];rfl
  have b0:(0:Int)≤((i+1:Nat):Int):=by omega
  have b1:(i:Int)≤((i+1:Nat):Int):=by omega
  have b2:((i+1:Nat):Int)≤(l.length:Int):=by omega
  have b3:((i+1:Nat):Int).toNat=i+1:=rfl
  have b4:((i:Nat):Int).toNat=i:=rfl
  have hin:(i:Int).toNat<l.length:=by omega
  have hc2:l[(i:Int).toNat]'hin=c:=hc
  have a1:(34::quoL (l.take i)).length+([92]:List UInt8).length≤9223372036854775807:=by simp;omega
  have a2:(34::(quoL (l.take i)++ [92])).length+([c]:List UInt8).length≤9223372036854775807:=by simp;omega
  have a3:(34::quoL (l.take i)).length+([c]:List UInt8).length≤9223372036854775807:=by simp;omega
  have a4:(34::quoL (l.take i)).length+(escB c).length≤9223372036854775807:=by have:(escB c).length=4:=rfl;simp;omega
  have hbc:zao c= .int .u8 (c.toNat:Int):=rfl
  refine go (an9 s0 s3 s4 r1 r2 r3 r4 trivial trivial) ?_
  have fin:∀{A:World} {σ':Sto},Ext v A→σ' 0=vs l→σ' 3=vs ((34::quoL (l.take i))++quoB c)→σ' 4=vi (i+1:Nat)→(σ' 0=vs l∧σ' 3=vs (34::quoL (l.take (i+1)))∧σ' 4=vi (i+1:Nat))∧Ext w A:=fun hA h0 h3 h4=>⟨⟨h0,by rw[htk];exact h3,h4⟩,hE.trans hA⟩
  by_cases h34:c=34
  ·have d1:decide ((c.toNat:Int)=34)=true:=decide_eq_true (by rw[h34];rfl)
   have hq:quoB c=[92]++ [c]:=by unfold quoB;rw[if_neg (by rw[h34];decide),if_pos (.inl h34)];rfl
   have hq3:vs ((34::quoL (l.take i))++quoB c)=vs (34::(quoL (l.take i)++ [92]++ [c])):=by rw[hq];simp
   refine rgg [(4,22)] (an6 s0 s4 (an6 r2 r3 b4 hc2 hc hin) hbc d1 trivial) ?_
   refine go trivial ?_
   refine rq ?_;intro gd K hgd hK
   try simp (disch:=first|omega|assumption|rfl) only[go_sem,s0,s3,s4,r4,Int.toNat_natCast,hsl]
   refine hK _ _ ?_;clear hK hgd;clear K;try clear gd
   repeat refine c_r ?_
   refine go (an4 s0 s4 r4 trivial) ?_
   exact⟨rfl,fin (Keep.refl _ _) ((vq1 s0)) (by rw[hq3];first| (simp only[go_sem];done)| (simp only[go_sem];rfl)) ((vq1 r4))⟩
  by_cases h92:c=92
  ·have d1:decide ((c.toNat:Int)=34)=false:=decide_eq_false (by rw[h92];decide)
   have d2:decide ((c.toNat:Int)=92)=true:=decide_eq_true (by rw[h92];rfl)
   have hq:quoB c=[92]++ [c]:=by unfold quoB;rw[if_neg (by rw[h92];decide),if_pos (.inr h92)];rfl
   have hq3:vs ((34::quoL (l.take i))++quoB c)=vs (34::(quoL (l.take i)++ [92]++ [c])):=by rw[hq];simp
   refine rgg [(4,22)] (an6 s0 s4 (an6 r2 r3 b4 hc2 hc hin) hbc d1 d2) ?_
   refine go trivial ?_
   refine rq ?_;intro gd K hgd hK
   try simp (disch:=first|omega|assumption|rfl) only[go_sem,s0,s3,s4,r4,Int.toNat_natCast,hsl]
   refine hK _ _ ?_;clear hK hgd;clear K;try clear gd
   repeat refine c_r ?_
   refine go (an4 s0 s4 r4 trivial) ?_
   exact⟨rfl,fin (Keep.refl _ _) ((vq1 s0)) (by rw[hq3];first| (simp only[go_sem];done)| (simp only[go_sem];rfl)) ((vq1 r4))⟩
  have e34:¬(c.toNat:Int)=34:=fun h=>h34 (UInt8.toNat_inj.1 (show c.toNat=34 by omega))
  have e92:¬(c.toNat:Int)=92:=fun h=>h92 (UInt8.toNat_inj.1 (show c.toNat=92 by omega))
  refine rgg [(4,22)] (an6 s0 s4 (an6 r2 r3 b4 hc2 hc hin) hbc (decide_eq_false e34) (decide_eq_false e92)) ?_
  refine go trivial ?_
  by_cases h32:32≤c.toNat
  rotate_left
  ·have d1:decide ((32:Int)≤(c.toNat:Int))=false:=decide_eq_false (by omega)
   have hq:quoB c=escB c:=by unfold quoB;rw[if_pos (.inl (by omega))]
   rw[hq]at fin
   refine rgg [(4,41)] (an6 s0 s4 (an6 r2 r3 b4 hc2 hc hin) hbc d1 trivial) ?_
   refine go trivial ?_
   refine rq ?_;intro gd K hgd hK
   try simp (disch:=first|omega|assumption|rfl) only[go_sem,s0,s3,s4,r2,r3,hc,hin,Int.toNat_natCast]
   refine Fn.mono (zdv v c) ?_
   rintro _ v1 ⟨rfl,hE1⟩
   try simp (disch:=first|omega|assumption|rfl) only[go_sem,s3]
   refine hK _ _ ?_;clear hK hgd;clear K;try clear gd
   repeat refine c_r ?_
   refine go (an4 s0 s4 r4 trivial) ?_
   exact⟨rfl,fin hE1 ((vq1 s0)) (vr0) ((vq1 r4))⟩
  have d1:decide ((32:Int)≤(c.toNat:Int))=true:=decide_eq_true (by omega)
  by_cases h126:c.toNat≤126
  rotate_left
  ·have d2:decide ((c.toNat:Int)≤126)=false:=decide_eq_false (by omega)
   have hq:quoB c=escB c:=by unfold quoB;rw[if_pos (.inr (by omega))]
   rw[hq]at fin
   refine rgg [(4,41)] (an6 s0 s4 (an6 r2 r3 b4 hc2 hc hin) hbc d1 d2) ?_
   refine go trivial ?_
   refine rq ?_;intro gd K hgd hK
   try simp (disch:=first|omega|assumption|rfl) only[go_sem,s0,s3,s4,r2,r3,hc,hin,Int.toNat_natCast]
   refine Fn.mono (zdv v c) ?_
   rintro _ v1 ⟨rfl,hE1⟩
   try simp (disch:=first|omega|assumption|rfl) only[go_sem,s3]
   refine hK _ _ ?_;clear hK hgd;clear K;try clear gd
   repeat refine c_r ?_
   refine go (an4 s0 s4 r4 trivial) ?_
   exact⟨rfl,fin hE1 ((vq1 s0)) (vr0) ((vq1 r4))⟩
  have d2:decide ((c.toNat:Int)≤126)=true:=decide_eq_true (by omega)
  have hq:quoB c=[c]:=by unfold quoB;rw[if_neg (by omega),if_neg (by rintro(h|h);exact h34 h;exact h92 h)]
  rw[hq]at fin
  refine rgg [(4,41)] (an6 s0 s4 (an6 r2 r3 b4 hc2 hc hin) hbc d1 d2) ?_
  refine go trivial ?_
  refine rq ?_;intro gd K hgd hK
  try simp (disch:=first|omega|assumption|rfl) only[go_sem,s0,s3,s4,r4,Int.toNat_natCast,hsl]
  refine hK _ _ ?_;clear hK hgd;clear K;try clear gd
  repeat refine c_r ?_
  refine go (an4 s0 s4 r4 trivial) ?_
  exact⟨rfl,fin (Keep.refl _ _) ((vq1 s0)) (vr0) ((vq1 r4))⟩
 ·rintro σ v r ⟨⟨s0,s3,s4⟩,hE⟩
  have a5:(34::quoL l).length+([34]:List UInt8).length≤9223372036854775807:=by have:=zb0 l;simp;omega
  rw[List.take_length]at s3
  refine go (an5 s0 s3 s4 r a5) ?_
  refine rt0 Tryz.ntmps58 ?_
  exact⟨rfl,hE⟩
def hexR(n wd:Nat)(s:Lab):Lab:=if h:0<n∨s.length<wd then hexR (n / 16) wd (hexD (n % 16)::s) else s
 termination_by n+(wd - s.length)
 decreasing_by
  simp only[List.length_cons]
  rcases h with h|h<;>omega
theorem zcF{n wd:Nat}{s:Lab}(h:0<n∨s.length<wd):hexR n wd s=hexR (n / 16) wd (hexD (n % 16)::s):=by rw[hexR,dif_pos h]
theorem zeq{n wd:Nat}{s:Lab}(h:¬(0<n∨s.length<wd)):hexR n wd s=s:=by rw[hexR,dif_neg h]
theorem zic:∀(k n wd:Nat) (s:Lab),n≤k→wd≤s.length→hexR n wd s=if n=0 then s else hexU n++s
 |0,n,wd,s,hk,hw=>by
  have:n=0:=by omega
  rw[if_pos this,zeq (by omega)]
 |k+1,n,wd,s,hk,hw=>by
  by_cases h0:n=0
  ·rw[if_pos h0,zeq (by omega)]
  ·rw[if_neg h0,zcF (.inl (by omega)),zic k (n / 16) wd _ (by omega) (by simp;omega)]
   by_cases h1:n<16
   ·rw[if_pos (by omega),zb7 h1,Nat.mod_eq_of_lt h1];rfl
   ·rw[if_neg (by omega),zdn h1,List.append_assoc];rfl
theorem hexR_one(n:Nat):hexR n 1 []=hexU n:=by
 rw[zcF (.inr (by decide)),zic (n / 16) (n / 16) 1 [hexD (n % 16)] (Nat.le_refl _) (by simp)]
 by_cases h1:n<16
 ·rw[if_pos (by omega),zb7 h1,Nat.mod_eq_of_lt h1]
 ·rw[if_neg (by omega),zdn h1]
theorem hexR_two{n:Nat}(h:n<256):hexR n 2 []=[hexD (n / 16),hexD (n % 16)]:=by
 rw[zcF (.inr (by simp)),zcF (.inr (by simp)),zeq (by rw[List.length_cons,List.length_cons,List.length_nil];omega),Nat.mod_eq_of_lt (show n / 16<16 by omega)]
theorem zlc(w:World){n wd:Nat}(hn:n≤4000000000)(hw:wd≤1000):Fn Tryz.prog 57 #[vi n,vi wd] w (fun v w'=>v=vs (hexR n wd [])∧Ext w w'):=by
 refine enter Tryz.func57 Tryz.ntmps57 rfl rfl ?_
 refine go trivial ?_
 have e1:∀m:Nat,(m:Int).tmod 16=((m % 16:Nat):Int):=fun m=>by rw[Int.tmod_eq_emod_of_nonneg (by omega)];omega
 have w1:∀m:Nat,IntKind.i64.wrap (((m % 16:Nat):Int)+1)=((m % 16+1:Nat):Int):=fun m=>by rw[zbo (by omega) (by omega)];omega
 have nz:¬(16:Int)=0:=by decide
 refine zaZ (fun M σ ds v=>ds=[]∧∃(m:Nat) (t:Lab),M=m+(wd - t.length)∧σ 0=vi m∧σ 1=vi wd∧σ 5=vs t∧m≤n∧hexR n wd []=hexR m wd t∧t.length+(m+(wd - t.length))≤n+wd∧Ext w v) (n+wd) ?_ ?_
 ·exact⟨rfl,n,[],rfl,vr0,vr0,vr0,Nat.le_refl _,rfl,by simp,Keep.refl _ _⟩
 rintro M σ ds v ⟨rfl,m,t,rfl,s0,s1,s5,hm,ht,hl,hE⟩
 have hq:(m:Int).tdiv 16=((m / 16:Nat):Int):=by rw[Int.tdiv_eq_ediv_of_nonneg (by omega)];omega
 have hwq:IntKind.i64.wrap ((m / 16:Nat):Int)=((m / 16:Nat):Int):=zbo (by omega) (by omega)
 have hwm:IntKind.i64.wrap ((m % 16:Nat):Int)=((m % 16:Nat):Int):=zbo (by omega) (by omega)
 have hlt:m % 16<16:=Nat.mod_lt _ (by decide)
 have hsl:(hexS.drop (m % 16)).take (m % 16+1 - m % 16)=[hexD (m % 16)]:=by
  have h2:m % 16<hexS.length:=hlt
  rw[List.drop_eq_getElem_cons h2,zib h2,show m % 16+1 - m % 16=1 from by omega];rfl
 have slc:slV Tryz.prog 9 (.string ⟨#[48,49,50,51,52,53,54,55,56,57,97,98,99,100,101,102]⟩) (some (vi (m % 16:Nat))) (some (vi (m % 16+1:Nat))) Option.none=some (vs [hexD (m % 16)]):=by
  rw[s_D,←hsl]
  have h16:hexS.length=16:=rfl
  exact s_str (P:=Tryz.prog) (s:=hexS) (k:= .i64) (k':= .i64) (l:=(m % 16:Nat)) (m:=(m % 16+1:Nat)) (by omega) (by omega) (by rw[h16];omega)
 have a1:([hexD (m % 16)]:Lab).length+t.length≤9223372036854775807:=by simp;omega
 by_cases hgo:0<m∨t.length<wd
 ·have e2:=zcF hgo
  have fin:∀{A:World} {σ':Sto},Ext v A→σ' 0=vi (m / 16:Nat)→σ' 1=vi wd→σ' 5=vs (hexD (m % 16)::t)→∃m',m'<m+(wd - t.length)∧([]:List Deferred)=[]∧∃(m1:Nat) (t1:Lab),m'=m1+(wd - t1.length)∧σ' 0=vi m1∧σ' 1=vi wd∧σ' 5=vs t1∧m1≤n∧hexR n wd []=hexR m1 wd t1∧t1.length+(m1+(wd - t1.length))≤n+wd∧Ext w A:=fun {A σ'} hA h0 h1 h5=>by
   have h6:m / 16+(wd - (hexD (m % 16)::t).length)<m+(wd - t.length):=by rw[List.length_cons];rcases hgo with h|h<;>omega
   exact⟨m / 16+(wd - (hexD (m % 16)::t).length),h6,rfl,m / 16,_,rfl,h0,h1,h5,by omega,ht.trans e2,by rw[List.length_cons]at*;omega,hE.trans hA⟩
  by_cases h0:0<m
  ·have d1:decide ((0:Int)<(m:Int))=true:=decide_eq_true (by omega)
   refine go trivial ?_
   refine rgg [(2,8)] (an4 s0 s1 s5 d1) ?_
   refine go (an6 s0 s1 s5 (e1 m) (w1 m) (an6 nz hwm hq hwq a1 slc)) ?_
   exact fin (Keep.refl _ _) (vr0) ((vq1 s1)) (vr0)
  ·have d1:decide ((0:Int)<(m:Int))=false:=decide_eq_false (by omega)
   have d2:decide ((t.length:Int)<(wd:Int))=true:=decide_eq_true (by omega)
   refine go trivial ?_
   refine rgg [(2,8)] (an5 s0 s1 s5 d1 d2) ?_
   refine go (an6 s0 s1 s5 (e1 m) (w1 m) (an6 nz hwm hq hwq a1 slc)) ?_
   exact fin (Keep.refl _ _) (vr0) ((vq1 s1)) (vr0)
 ·have d1:decide ((0:Int)<(m:Int))=false:=decide_eq_false (by omega)
  have d2:decide ((t.length:Int)<(wd:Int))=false:=decide_eq_false (by omega)
  refine go trivial ?_
  refine rgg [(2,8)] (an5 s0 s1 s5 d1 d2) ?_
  refine go (an3 s0 s1 s5) ?_
  refine rt1 s5 Tryz.ntmps57 ?_
  exact⟨by rw[ht,zeq hgo],hE⟩
theorem zhA(w:World)(t:Int):Fn Tryz.prog 62 #[vi t] w (fun v w'=>v= .tuple #[vi (zay t).1,vi (zay t).2.1,vi (zay t).2.2.2]∧w'=w):=by
 refine enter Tryz.func62 Tryz.ntmps62 rfl rfl ?_
 by_cases h1:t=1
 ·subst h1
  refine go (an9 (show decide ((1:Int)=1)=true from rfl) trivial trivial trivial trivial trivial trivial trivial trivial) ?_
  refine zaf (.inr rfl) Tryz.ntmps62 rfl (zac (vr0) (zac (vr0) (zac (vr0) zae))) ?_
  exact⟨rfl,rfl⟩
 by_cases h28:t=28
 ·subst h28
  refine go (an9 (show decide ((28:Int)=1)=false from rfl) (show decide ((28:Int)=28)=true from rfl) trivial trivial trivial trivial trivial trivial trivial) ?_
  refine zaf (.inr rfl) Tryz.ntmps62 rfl (zac (vr0) (zac (vr0) (zac (vr0) zae))) ?_
  exact⟨rfl,rfl⟩
 by_cases h2:t=2
 ·subst h2
  refine go (an9 (show decide ((2:Int)=1)=false from rfl) (show decide ((2:Int)=28)=false from rfl) (show decide ((2:Int)=2)=true from rfl) trivial trivial trivial trivial trivial trivial) ?_
  refine zaf (.inr rfl) Tryz.ntmps62 rfl (zac (vr0) (zac (vr0) (zac (vr0) zae))) ?_
  exact⟨rfl,rfl⟩
 by_cases h5:t=5
 ·subst h5
  refine go (an9 (show decide ((5:Int)=1)=false from rfl) (show decide ((5:Int)=28)=false from rfl) (show decide ((5:Int)=2)=false from rfl) (show decide ((5:Int)=5)=true from rfl) trivial trivial trivial trivial trivial) ?_
  refine zaf (.inr rfl) Tryz.ntmps62 rfl (zac (vr0) (zac (vr0) (zac (vr0) zae))) ?_
  exact⟨rfl,rfl⟩
 by_cases h12:t=12
 ·subst h12
  refine go (an9 (show decide ((12:Int)=1)=false from rfl) (show decide ((12:Int)=28)=false from rfl) (show decide ((12:Int)=2)=false from rfl) (show decide ((12:Int)=5)=false from rfl) (show decide ((12:Int)=12)=true from rfl) trivial trivial trivial trivial) ?_
  refine zaf (.inr rfl) Tryz.ntmps62 rfl (zac (vr0) (zac (vr0) (zac (vr0) zae))) ?_
  exact⟨rfl,rfl⟩
 by_cases h39:t=39
 ·subst h39
  refine go (an9 (show decide ((39:Int)=1)=false from rfl) (show decide ((39:Int)=28)=false from rfl) (show decide ((39:Int)=2)=false from rfl) (show decide ((39:Int)=5)=false from rfl) (show decide ((39:Int)=12)=false from rfl) (show decide ((39:Int)=39)=true from rfl) trivial trivial trivial) ?_
  refine zaf (.inr rfl) Tryz.ntmps62 rfl (zac (vr0) (zac (vr0) (zac (vr0) zae))) ?_
  exact⟨rfl,rfl⟩
 by_cases h15:t=15
 ·subst h15
  refine go (an9 (show decide ((15:Int)=1)=false from rfl) (show decide ((15:Int)=28)=false from rfl) (show decide ((15:Int)=2)=false from rfl) (show decide ((15:Int)=5)=false from rfl) (show decide ((15:Int)=12)=false from rfl) (show decide ((15:Int)=39)=false from rfl) (show decide ((15:Int)=15)=true from rfl) trivial trivial) ?_
  refine zaf (.inr rfl) Tryz.ntmps62 rfl (zac (vr0) (zac (vr0) (zac (vr0) zae))) ?_
  exact⟨rfl,rfl⟩
 by_cases h6:t=6
 ·subst h6
  refine go (an9 (show decide ((6:Int)=1)=false from rfl) (show decide ((6:Int)=28)=false from rfl) (show decide ((6:Int)=2)=false from rfl) (show decide ((6:Int)=5)=false from rfl) (show decide ((6:Int)=12)=false from rfl) (show decide ((6:Int)=39)=false from rfl) (show decide ((6:Int)=15)=false from rfl) (show decide ((6:Int)=6)=true from rfl) trivial) ?_
  refine zaf (.inr rfl) Tryz.ntmps62 rfl (zac (vr0) (zac (vr0) (zac (vr0) zae))) ?_
  exact⟨rfl,rfl⟩
 by_cases h16:t=16
 ·subst h16
  refine go (an9 (show decide ((16:Int)=1)=false from rfl) (show decide ((16:Int)=28)=false from rfl) (show decide ((16:Int)=2)=false from rfl) (show decide ((16:Int)=5)=false from rfl) (show decide ((16:Int)=12)=false from rfl) (show decide ((16:Int)=39)=false from rfl) (show decide ((16:Int)=15)=false from rfl) (show decide ((16:Int)=6)=false from rfl) (show decide ((16:Int)=16)=true from rfl)) ?_
  refine zaf (.inr rfl) Tryz.ntmps62 rfl (zac (vr0) (zac (vr0) (zac (vr0) zae))) ?_
  exact⟨rfl,rfl⟩
 have hsh:zay t=(0,0,0, -1):=by
  unfold zay
  rw[if_neg h1,if_neg h28,if_neg h15,if_neg h6,if_neg h16,if_neg (by rintro(h|h|h|h);exact h2 h;exact h5 h;exact h12 h;exact h39 h)]
 rw[hsh]
 refine go (an9 (decide_eq_false h1) (decide_eq_false h28) (decide_eq_false h2) (decide_eq_false h5) (decide_eq_false h12) (decide_eq_false h39) (decide_eq_false h15) (decide_eq_false h6) (decide_eq_false h16)) ?_
 refine zaf (.inr rfl) Tryz.ntmps62 rfl (zac (vr0) (zac (vr0) (zac (vr0) zae))) ?_
 exact⟨rfl,rfl⟩
theorem shape_x(t:Int):(zay t).2.2.1=if t=16 then -1 else 0:=by
 unfold zay
 by_cases h:t=16
 ·subst h;rfl
 ·rw[if_neg h]
  (repeat' split)<;>rfl
theorem zje{w:World}{cs:List Value}{d:DatL}(hd:DatAt w cs d)(hT:DatT d):Fn Tryz.prog 44 #[.agg cs.toArray] w (fun v w'=>v=vi (zbe d)∧Ext w w'):=by
 have hS:=hT.s
 obtain⟨nm,nu,tx,rw',rfl,⟨vals,⟨an,cn,rfl,hcn,hgn⟩,hvl,hvr⟩,hnu,htx,hrw⟩:=hd.ex
 obtain⟨au,cu,hau,hcu,hgu⟩:=id hnu
 obtain⟨at1,ct,hat,hgt⟩:=zbw htx
 obtain⟨ar,cr,har,_⟩:=id hrw
 rw[List.length_map]at hau har hcu
 subst hau
 subst hat
 subst har
 unfold zbe
 refine enter Tryz.func44 Tryz.ntmps44 rfl rfl ?_
 refine go trivial ?_
 refine zam ?_
 intro w1 hE1 hs1 hA
 have p0:zad w1 (some ⟨w.heap.size,0,Option.none⟩)=some (vi d.ty):=zaa hA rfl
 have p1:zad w1 (some ⟨w.heap.size,1,Option.none⟩)=some (.slice an vals.length cn):=zaa hA rfl
 have p2:zad w1 (some ⟨w.heap.size,2,Option.none⟩)=some (.slice au d.nums.length cu):=zaa hA rfl
 have p3:zad w1 (some ⟨w.heap.size,3,Option.none⟩)=some (.slice at1 d.texts.length ct):=zaa hA rfl
 have p4:zad w1 (some ⟨w.heap.size,4,Option.none⟩)=some (.slice ar d.raw.length cr):=zaa hA rfl
 obtain⟨p,hp⟩:∃p,w.heap.size=p:=⟨_,rfl⟩
 rw[hp]at p0 p1 p2 p3 p4 hA ⊢
 by_cases c1:d.ty<1
 ·rw[if_pos (.inl c1)]
  refine go trivial ?_
  refine rgg [(3,13)] (an3 p0 (decide_eq_true c1) (Nat.add_zero 0)) ?_
  refine go trivial ?_
  refine zaf (.inr rfl) Tryz.ntmps44 rfl (zac (vr0) zae) ?_
  exact⟨rfl,hE1⟩
 by_cases c2:65535<d.ty
 ·rw[if_pos (.inr c2)]
  refine go trivial ?_
  refine rgg [(3,13)] (an4 p0 (decide_eq_false c1) (decide_eq_true c2) (Nat.add_zero 0)) ?_
  refine go trivial ?_
  refine zaf (.inr rfl) Tryz.ntmps44 rfl (zac (vr0) zae) ?_
  exact⟨rfl,hE1⟩
 rw[if_neg (by omega)]
 refine go trivial ?_
 refine rgg [(3,13)] (an4 p0 (decide_eq_false c1) (decide_eq_false c2) (Nat.add_zero 0)) ?_
 refine go trivial ?_
 refine rc (an2 p0 (Nat.add_zero 0)) (zhA w1 d.ty) ?_
 rintro _ w2 ⟨rfl,hw2⟩
 subst hw2
 have hx:=shape_x d.ty
 obtain⟨⟨a,c,x,r⟩,hsh⟩:∃x,zay d.ty=x:=⟨_,rfl⟩
 have htxd:txD d=if x<0 then min (max (d.texts.length:Int) 1) 32 else x:=by unfold txD;rw[hsh]
 have hrwd:rwD d=if r<0 then(d.raw.length:Int) else r:=by unfold rwD;rw[hsh]
 have hfb:zbh d=(decide ((d.names.length:Int)=a) && decide ((d.nums.length:Int)=c) && decide ((d.texts.length:Int)=txD d) && decide ((d.raw.length:Int)=rwD d)):=by unfold zbh;rw[hsh]
 rw[hsh]at hx ⊢
 simp only at hx ⊢
 obtain⟨b6,hb6⟩:∃b,decide ((d.texts.length:Int)=txD d)=b:=⟨_,rfl⟩
 rw[hb6]at hfb
 obtain⟨z,hz⟩:∃b,decide ((d.texts.length:Int)=0)=b:=⟨_,rfl⟩
 refine rgo (an3 p3 (Nat.zero_add 3) hz) ?_
 refine rg2 p0 Nat.add_zero ?_
 repeat refine c_r ?_
 refine zas (Q:=fun e σ' ds' v'=>e= .normal∧ds'=[]∧v'=w2∧(σ' 1= .pointer (some ⟨p,0,Option.none⟩)∧σ' 3=vi a∧σ' 4=vi c∧σ' 5=vi r∧σ' 6= .bool b6)) ?_ ?_
 ·refine wc0 ?_ ?_
  ·intro h16
   have h16':=of_decide_eq_true h16
   rw[if_pos h16']at hx
   rw[if_pos (by omega)]at htxd
   repeat refine c_r ?_
   by_cases k1:(1:Int)≤(d.texts.length:Int)
   ·obtain⟨z2,hz2⟩:∃b,decide ((d.texts.length:Int)≤32)=b:=⟨_,rfl⟩
    have e6:z2=b6:=by rw[←hz2,←hb6];exact decide_eq_decide.2 (by rw[htxd];omega)
    refine rgg [(4,36)] (an5 p3 (Nat.zero_add 3) (decide_eq_true k1) hz2 trivial) ?_
    exact⟨rfl,rfl,rfl,vr0,vr0,vr0,vr0,by rw[←e6];first| (simp only[go_sem];done)| (simp only[go_sem];rfl)⟩
   ·have e6:b6=false:=by rw[←hb6];exact decide_eq_false (by rw[htxd];omega)
    subst e6
    refine rgg [(4,36)] (an3 p3 (Nat.zero_add 3) (decide_eq_false k1)) ?_
    exact⟨rfl,rfl,rfl,vr0,vr0,vr0,vr0,vr0⟩
  ·intro h16
   have h16':=of_decide_eq_false h16
   rw[if_neg h16']at hx
   rw[if_neg (by omega),hx]at htxd
   have e6:z=b6:=by rw[←hz,←hb6,htxd]
   repeat refine c_r ?_
   exact⟨rfl,rfl,rfl,vr0,vr0,vr0,vr0,by rw[←e6];first| (simp only[go_sem];done)| (simp only[go_sem];rfl)⟩
 rintro _ σ1 _ w3 ⟨rfl,rfl,rfl,⟨s1,s3,s4,s5,s6⟩⟩
 repeat refine c_r ?_
 rw[←hvl]at hfb
 refine zas (Q:=fun e σ' ds' v'=>e= .normal∧ds'=[]∧v'=w3∧σ' 1= .pointer (some ⟨p,0,Option.none⟩)∧σ' 68= .bool (!zbh d)) ?_ ?_
 ·by_cases kA:(vals.length:Int)=a
  rotate_left
  ·have e7:(!zbh d)=true:=by rw[hfb,decide_eq_false kA];rfl
   rw[e7]
   refine rgg [(5,47),(12,54),(15,57),(23,65)] (an9 s1 s3 s4 s5 s6 p1 (Nat.zero_add 1) (decide_eq_false kA) (an3 Bool.not_true Bool.not_false zb5)) ?_
   exact⟨rfl,rfl,rfl,(vq1 s1),vr0⟩
  by_cases kB:(d.nums.length:Int)=c
  rotate_left
  ·have e7:(!zbh d)=true:=by rw[hfb,decide_eq_false kB];simp
   rw[e7]
   refine rgg [(5,47),(12,54),(15,57),(23,65)] (an9 s1 s3 s4 s5 s6 p1 (Nat.zero_add 1) (decide_eq_true kA) (an6 p2 (Nat.zero_add 2) (decide_eq_false kB) Bool.not_true Bool.not_false zb5)) ?_
   exact⟨rfl,rfl,rfl,(vq1 s1),vr0⟩
  by_cases kC:(0:Int)≤r
  ·rw[if_neg (by omega)]at hrwd
   by_cases kD:(d.raw.length:Int)=r
   ·have e7:(!zbh d)=!b6:=by rw[hfb,decide_eq_true kA,decide_eq_true kB,hrwd,decide_eq_true kD];simp
    rw[e7]
    refine rgg [(5,47),(12,54),(15,57),(23,65)] (an9 s1 s3 s4 s5 s6 p1 (Nat.zero_add 1) (decide_eq_true kA) (an9 p2 (Nat.zero_add 2) (decide_eq_true kB) Bool.not_true Bool.not_false (decide_eq_true kC) p4 (Nat.zero_add 4) (decide_eq_true kD))) ?_
    exact⟨rfl,rfl,rfl,(vq1 s1),vr0⟩
   ·have e7:(!zbh d)=true:=by rw[hfb,hrwd,decide_eq_false kD];simp
    rw[e7]
    refine rgg [(5,47),(12,54),(15,57),(23,65)] (an9 s1 s3 s4 s5 s6 p1 (Nat.zero_add 1) (decide_eq_true kA) (an9 p2 (Nat.zero_add 2) (decide_eq_true kB) Bool.not_true Bool.not_false (decide_eq_true kC) p4 (Nat.zero_add 4) (decide_eq_false kD))) ?_
    exact⟨rfl,rfl,rfl,(vq1 s1),vr0⟩
  ·rw[if_pos (by omega)]at hrwd
   have e7:(!zbh d)=!b6:=by rw[hfb,decide_eq_true kA,decide_eq_true kB,hrwd];simp
   rw[e7]
   refine rgg [(5,47),(12,54),(15,57),(23,65)] (an9 s1 s3 s4 s5 s6 p1 (Nat.zero_add 1) (decide_eq_true kA) (an9 p2 (Nat.zero_add 2) (decide_eq_true kB) Bool.not_true Bool.not_false (decide_eq_false kC) p4 (Nat.zero_add 4) zb5)) ?_
   exact⟨rfl,rfl,rfl,(vq1 s1),vr0⟩
 clear s1 s3 s4 s5 s6
 rintro _ σ2 _ w4 ⟨rfl,rfl,rfl,s1,s68⟩
 cases hf:zbh d with
 |false=>
  rw[hf]at s68
  rw[if_pos rfl]
  refine go (an2 s1 s68) ?_
  refine zaf (.inr rfl) Tryz.ntmps44 rfl (zac (vr0) zae) ?_
  exact⟨rfl,hE1⟩
 |true=>
 rw[hf]at s68
 rw[if_neg (by decide)]
 refine go (an2 s1 s68) ?_
 have hnames:=hS.names
 have hnn:=hT.nn
 refine za3 vals.length (fun i σ v=>(σ 1= .pointer (some ⟨p,0,Option.none⟩)∧σ 7=vi i)∧Ext w4 v∧∀j (h:j<d.names.length),j<i→zaS d.names[j]=0) ?_ ?_ ?_
 ·exact⟨⟨(vr1 s1),vr0⟩,Keep.refl _ _,fun j _ h=>by omega⟩
 ·rintro i σ v hi r ⟨⟨s1,s7⟩,hE,hlow⟩
  have g0:=hgn i hi
  obtain⟨xN,rfl⟩:=Option.isSome_iff_exists.1 (zaj g0)
  have hEv:=hE1.trans hE
  have g:=zab hEv g0
  have hin:i<d.names.length:=by omega
  have hrow:=(hvr i hi hin).ext hEv
  obtain⟨nv,hnv⟩:∃nv,vals[i]=nv:=⟨_,rfl⟩
  obtain⟨n,hn⟩:∃n,d.names[i]=n:=⟨_,rfl⟩
  rw[hnv]at g hrow
  rw[hn]at hrow
  have hnS:=hnames n (hn▸List.getElem_mem hin)
  obtain⟨r1,r2,r3,r4⟩:=r
  have q1:=zab hE p1
  refine go (an9 s1 s7 q1 (Nat.zero_add 1) r1 r2 r3 g trivial) ?_
  refine rc (an9 s1 s7 q1 (Nat.zero_add 1) r1 r2 r3 g trivial) (zcv v nv n hrow (fun l hl=>by have:=hnS.1 l hl;omega) (by have:=hnS.2;omega)) ?_
  rintro _ v1 ⟨rfl,hE1'⟩
  by_cases hc:zaS n=0
  ·refine rgo (an4 s1 s7 r4 (decide_eq_true hc)) ?_
   refine⟨rfl,⟨(vq1 s1),(vq1 r4)⟩,hE.trans hE1',fun j hj hji=>?_⟩
   by_cases e:j=i
   ·subst e;rw[hn];exact hc
   ·exact hlow j hj (by omega)
  ·refine rgo (an2 s1 (decide_eq_false hc)) ?_
   refine zaf (.inr rfl) Tryz.ntmps44 rfl (zac (vr0) zae) ?_
   have hfind:d.names.find? (fun n=>decide (zaS n≠0))=some n:=by
    rw[List.find?_eq_some_iff_getElem]
    refine⟨decide_eq_true hc,i,hin,hn,fun j hj=>?_⟩
    simp[hlow j (by omega) hj]
   rw[hfind]
   exact⟨rfl,hEv.trans hE1'⟩
 clear s1 s68
 rintro σ v r ⟨⟨s1,s7⟩,hE,hlow⟩
 have hnone:d.names.find? (fun n=>decide (zaS n≠0))=Option.none:=by
  rw[List.find?_eq_none]
  intro n hn
  obtain⟨j,hj,rfl⟩:=List.mem_iff_getElem.1 hn
  simp[hlow j hj (by omega)]
 rw[hnone]
 simp only
 have hEv:=hE1.trans hE
 have u0:=zab hE p0
 have u1:=zab hE p1
 have u2:=zab hE p2
 have u3:=zab hE p3
 have u4:=zab hE p4
 refine go (an5 s1 s7 u1 r (Nat.zero_add 1)) ?_
 obtain⟨tt,htt⟩:∃tt,decide (d.ty=15∧65535<d.nums.headD 0)=tt:=⟨_,rfl⟩
 refine zas (Q:=fun e σ' ds' v'=>e= .normal∧ds'=[]∧v=v'∧σ' 1= .pointer (some ⟨p,0,Option.none⟩)∧σ' 94= .bool tt) ?_ ?_
 ·by_cases c3:d.ty=15
  ·have hn1:d.nums.length=1:=by
    unfold zbh at hf
    simp only[Bool.and_eq_true,decide_eq_true_eq]at hf
    have h2:=hf.1.1.2
    rw[c3]at h2
    have h3:(zay 15).2.1=1:=rfl
    rw[h3]at h2
    omega
   obtain⟨x,hx⟩:∃x,d.nums[0]'(by omega)=x:=⟨_,rfl⟩
   have hhd:d.nums.headD 0=x:=by
    cases hnn:d.nums with
    |nil=>rw[hnn]at hn1;cases hn1
    |cons a l=>simp[hnn]at hx;simpa using hx
   have gu:=zab hEv (hgu 0 (by rw[List.length_map];omega))
   rw[List.getElem_map,hx,zan]at gu
   obtain⟨xU,rfl⟩:∃x,au=some x:=by
    cases au with
    |none=>cases gu
    |some x=>exact⟨x,rfl⟩
   have n0:(0:Int)<(d.nums.length:Int):=by omega
   have d2:decide ((65535:Int)<x)=tt:=by rw[←htt,hhd];exact decide_eq_decide.2 ⟨fun h=>⟨c3,h⟩,fun h=>h.2⟩
   refine rgg [(3,88)] (an9 s1 u0 u2 (decide_eq_true c3) gu n0 d2 (Nat.add_zero 0) (an4 (Nat.zero_add 2) Int.toNat_zero (Nat.zero_mul 1) (zan (some xU)))) ?_
   exact⟨rfl,rfl,rfl,(vq1 s1),vr0⟩
  ·have d2:tt=false:=by rw[←htt];exact decide_eq_false fun h=>c3 h.1
   subst d2
   refine rgg [(3,88)] (an4 s1 u0 (decide_eq_false c3) (Nat.add_zero 0)) ?_
   exact⟨rfl,rfl,rfl,(vq1 s1),vr0⟩
 clear s1
 rintro _ σ3 _ v1 ⟨rfl,rfl,hv1,s1,s94⟩
 subst hv1
 cases tt with
 |true=>
  rw[if_pos (of_decide_eq_true htt)]
  refine go (an2 s1 s94) ?_
  refine zaf (.inr rfl) Tryz.ntmps44 rfl (zac (vr0) zae) ?_
  exact⟨rfl,hEv⟩
 |false=>
 rw[if_neg (of_decide_eq_false htt)]
 have htx':=hS.tx
 have hnt:=hS.nt
 refine go (an2 s1 s94) ?_
 clear hlow
 refine za3 d.texts.length (fun i σ v'=>(σ 1= .pointer (some ⟨p,0,Option.none⟩)∧σ 9=vi i)∧v'=v∧∀j (h:j<d.texts.length),j<i→d.texts[j].length≤255) ?_ ?_ ?_
 ·exact⟨⟨(vr1 s1),vr0⟩,rfl,fun j _ h=>by omega⟩
 ·rintro i σ v' hi ⟨r1,r2,r3,r4⟩ ⟨⟨s1,s9⟩,rfl,hlow⟩
  obtain⟨xT,rfl,g0⟩:=hgt i hi
  have g:=zab hEv g0
  obtain⟨tx,htxi⟩:∃t,d.texts[i]=t:=⟨_,rfl⟩
  rw[htxi]at g
  have htl:=htx' tx (htxi▸List.getElem_mem hi)
  by_cases hlt:255<tx.length
  ·have d5:decide ((255:Int)<(tx.length:Int))=true:=decide_eq_true (by omega)
   refine go (an9 s1 s9 u3 (Nat.zero_add 3) r1 r2 r3 g d5) ?_
   refine zaf (.inr rfl) Tryz.ntmps44 rfl (zac (vr0) zae) ?_
   have hlg:zdI d.texts=true:=by
    unfold zdI
    rw[List.any_eq_true]
    exact⟨tx,htxi▸List.getElem_mem hi,decide_eq_true hlt⟩
   rw[if_pos (.inr hlg)]
   exact⟨rfl,hEv⟩
  ·have d5:decide ((255:Int)<(tx.length:Int))=false:=decide_eq_false (by omega)
   refine go (an9 s1 s9 u3 (Nat.zero_add 3) r1 r2 r3 g (an2 r4 d5)) ?_
   refine⟨rfl,⟨(vq1 s1),(vq1 r4)⟩,rfl,fun j hj hji=>?_⟩
   by_cases e:j=i
   ·subst e;rw[htxi];omega
   ·exact hlow j hj (by omega)
 clear s1
 rintro σ v' r ⟨⟨s1,s9⟩,rfl,hlow⟩
 have hlg:zdI d.texts=false:=by
  unfold zdI
  rw[List.any_eq_false]
  intro t ht
  obtain⟨j,hj,rfl⟩:=List.mem_iff_getElem.1 ht
  have:=hlow j hj hj
  simp;omega
 by_cases c4:1024<d.raw.length
 ·have d4:decide ((1024:Int)<(d.raw.length:Int))=true:=decide_eq_true (by omega)
  rw[if_pos (.inl c4)]
  refine go (an9 s1 s9 u3 (Nat.zero_add 3) r u4 d4 (Nat.zero_add 4) trivial) ?_
  refine zaf (.inr rfl) Tryz.ntmps44 rfl (zac (vr0) zae) ?_
  exact⟨rfl,hEv⟩
 ·have d4:decide ((1024:Int)<(d.raw.length:Int))=false:=decide_eq_false (by omega)
  rw[if_neg (fun h=>by rcases h with h|h;exact c4 h;rw[hlg]at h;cases h)]
  refine go (an9 s1 s9 u3 (Nat.zero_add 3) r u4 d4 (Nat.zero_add 4) trivial) ?_
  refine zaf (.inr rfl) Tryz.ntmps44 rfl (zac (vr0) zae) ?_
  exact⟨rfl,hEv⟩
theorem zdZ{d:DatL}(hf:zbh d=true):(d.names.length:Int)=(zay d.ty).1∧(d.nums.length:Int)=(zay d.ty).2.1∧(d.texts.length:Int)=txD d∧(d.raw.length:Int)=rwD d:=by
 unfold zbh at hf
 simp only[Bool.and_eq_true,decide_eq_true_eq]at hf
 exact⟨hf.1.1.1,hf.1.1.2,hf.1.2,hf.2⟩
theorem zbk{α:Type}{l:List α}(h:(l.length:Int)=0):l=[]:=List.length_eq_zero_iff.1 (by omega)
theorem zbg{d:DatL}(hf:zbh d=true){a c r:Int}(h:zay d.ty=(a,c,0,r)):(d.names.length:Int)=a∧(d.nums.length:Int)=c∧d.texts=[]∧(0≤r→(d.raw.length:Int)=r):=by
 obtain⟨h1,h2,h3,h4⟩:=zdZ hf
 unfold txD at h3
 unfold rwD at h4
 rw[h]at h1 h2 h3 h4
 exact⟨h1,h2,zbk h3,fun hr=>by rw[if_neg (by simp only;omega)]at h4;exact h4⟩
theorem zb2(sep x:Lab):zaL sep [x]=x:=by simp[zaL]
theorem ziY(l:List UInt8):zaU 1 l=l.map fun c=>[c]:=by
 refine List.ext_getElem (by rw[zcd];simp) fun i h1 h2=>?_
 rw[zd0]
 have hi:i<l.length:=by simpa using h2
 rw[List.getElem_map,Nat.mul_one,List.drop_eq_getElem_cons hi]
 rfl
theorem zhI{d:DatL}(hf:zbh d=true)(ht:d.ty=1):za0 hexU d=zaL [46] (d.raw.map fun c=>Lib.decDigits c.toNat):=by
 obtain⟨h1,h2,h3,h4⟩:=zbg hf (a:=0) (c:=0) (r:=4) (by rw[ht];rfl)
 have e1:=zbk h1
 have e2:=zbk h2
 unfold za0 zbI zbN zdB zco
 rw[e1,e2,h3,ht]
 simp only[List.map_nil,ite_self,List.append_nil,List.nil_append,if_true]
 rw[zb2]
 unfold zcG
 rw[ziY,List.map_map]
 congr 1
 refine List.map_congr_left fun c _=>?_
 show Lib.decDigits (0*256+c.toNat)=_
 rw[Nat.zero_mul,Nat.zero_add]
def zdl(raw:List UInt8)(i:Nat):Lab:=hexU ((raw.getD (2*i) 0).toNat*256+(raw.getD (2*i+1) 0).toNat)
theorem tx_28{d:DatL}(hf:zbh d=true)(ht:d.ty=28):d.raw.length=16∧za0 hexU d=zaL [58] ((List.range 8).map (zdl d.raw)):=by
 obtain⟨h1,h2,h3,h4⟩:=zbg hf (a:=0) (c:=0) (r:=16) (by rw[ht];rfl)
 have e1:=zbk h1
 have e2:=zbk h2
 have e4:d.raw.length=16:=by have:=h4 (by decide);omega
 refine⟨e4,?_⟩
 unfold za0 zbI zbN zdB zco
 rw[e1,e2,h3,ht]
 simp only[List.map_nil,ite_self,List.append_nil,List.nil_append,if_true,if_neg (show¬(28:Int)=1 by decide)]
 rw[zb2]
 unfold zcG
 congr 1
 refine List.ext_getElem (by rw[List.length_map,zcd,e4];simp) fun i h1 h2=>?_
 have hi:i<8:=by simpa using h2
 rw[List.getElem_map,List.getElem_map,zd0,List.getElem_range]
 unfold zdl
 rw[List.getD_eq_getElem?_getD,List.getElem?_eq_getElem (show 2*i<d.raw.length by omega),List.getD_eq_getElem?_getD,List.getElem?_eq_getElem (show 2*i+1<d.raw.length by omega)]
 rw[show i*2=2*i from Nat.mul_comm _ _,List.drop_eq_getElem_cons (show 2*i<d.raw.length by omega),List.drop_eq_getElem_cons (show 2*i+1<d.raw.length by omega)]
 show hexU ((0*256+_)*256+_)=_
 rw[Nat.zero_mul,Nat.zero_add]
 rfl
theorem tx_16{d:DatL}(hf:zbh d=true)(ht:d.ty=16):za0 hexU d=zaL [32] (d.texts.map quoT):=by
 obtain⟨h1,h2,_,_⟩:=zdZ hf
 rw[ht]at h1 h2
 have e1:=zbk h1
 have e2:=zbk h2
 unfold za0 zbI zbN zdB zco
 rw[e1,e2,ht,show(za7 16 tyTab).2=true from rfl]
 simp
theorem tx_15{d:DatL}(hf:zbh d=true)(ht:d.ty=15):∃m n,d.nums=[m]∧d.names=[n]∧za0 hexU d=(numT m++ [32])++zaD n:=by
 obtain⟨h1,h2,h3,h4⟩:=zbg hf (a:=1) (c:=1) (r:=0) (by rw[ht];rfl)
 obtain⟨n,hn⟩:=List.length_eq_one_iff.1 (show d.names.length=1 by omega)
 obtain⟨m,hm⟩:=List.length_eq_one_iff.1 (show d.nums.length=1 by omega)
 refine⟨m,n,hm,hn,?_⟩
 unfold za0 zbI zbN zdB zco
 rw[hn,hm,h3,ht,show(za7 15 tyTab).2=true from rfl]
 simp[zaL]
theorem zem{d:DatL}(hf:zbh d=true)(ht:d.ty=2∨d.ty=5∨d.ty=12∨d.ty=39∨d.ty=6):za0 hexU d=zaL [32] (d.names.map zaD++d.nums.map numT):=by
 have h3:d.texts=[]:=by
  rcases ht with h|h|h|h|h
  ·exact(zbg hf (a:=1) (c:=0) (r:=0) (by rw[h];rfl)).2.2.1
  ·exact(zbg hf (a:=1) (c:=0) (r:=0) (by rw[h];rfl)).2.2.1
  ·exact(zbg hf (a:=1) (c:=0) (r:=0) (by rw[h];rfl)).2.2.1
  ·exact(zbg hf (a:=1) (c:=0) (r:=0) (by rw[h];rfl)).2.2.1
  ·exact(zbg hf (a:=2) (c:=5) (r:=0) (by rw[h];rfl)).2.2.1
 unfold za0 zbI zbN zdB zco
 rw[h3]
 rcases ht with h|h|h|h|h<;>(rw[h];simp[show (za7 2 tyTab).2=true from rfl,show(za7 5 tyTab).2=true from rfl,show(za7 12 tyTab).2=true from rfl,show(za7 39 tyTab).2=true from rfl,show(za7 6 tyTab).2=true from rfl])
theorem zhJ{d:DatL}(hf:zbh d=true)(ht:¬(d.ty=1∨d.ty=28∨d.ty=16∨d.ty=15∨d.ty=2∨d.ty=5∨d.ty=12∨d.ty=39∨d.ty=6)):za0 hexU d=([92,35,32]++Lib.decDigits d.raw.length++if 0<d.raw.length then [32] else [])++hexT d.raw:=by
 have hsh:zay d.ty=(0,0,0, -1):=by
  unfold zay
  rw[if_neg (by omega),if_neg (by omega),if_neg (by omega),if_neg (by omega),if_neg (by omega),if_neg (by omega)]
 obtain⟨h1,h2,h3,_⟩:=zbg hf hsh
 have e1:=zbk h1
 have e2:=zbk h2
 have hfd:(za7 d.ty tyTab).2=false:=by
  unfold tyTab
  simp only[za7]
  rw[if_neg (by omega),if_neg (by omega),if_neg (by omega),if_neg (by omega),if_neg (by omega),if_neg (by omega),if_neg (by omega),if_neg (by omega),if_neg (by omega)]
 unfold za0 zbI zbN zdB zco
 rw[e1,e2,h3,hfd,if_neg (show¬d.ty=1 by omega),if_neg (show¬d.ty=28 by omega),if_neg (show¬false=true by decide),zep]
 simp only[List.map_nil,ite_self,List.append_nil,List.nil_append]
 by_cases h0:d.raw.length=0
 ·rw[if_pos h0,if_neg (by omega),zbk (l:=d.raw) (by omega)]
  simp[zaL,hexT]
 ·rw[if_neg h0,if_pos (by omega)]
  simp[zaL]
theorem ix_at(c:UInt8)(r:Lab):∀p:Lab,c∉p→Lib.index (p++c::r) [c]=(p.length:Int)
 | [],_=>by
  show Lib.index (c::r) [c]=0
  rw[Lib.index];simp[List.isPrefixOf]
 |b::p,h=>by
  have hb:¬c=b:=fun e=>h (by rw[e];exact List.mem_cons_self ..)
  have ih:=ix_at c r p fun e=>h (List.mem_cons_of_mem _ e)
  show Lib.index (b::(p++c::r)) [c]=_
  rw[Lib.index,ih]
  have hp:([c]:List UInt8).isPrefixOf (b::(p++c::r))=false:=by simp[List.isPrefixOf,hb]
  have hn:¬((p.length:Int)== -1)=true:=fun e=>by have:=beq_iff_eq.1 e;omega
  rw[hp,if_neg (by decide),if_neg hn,List.length_cons]
  omega
structure SplC(c:UInt8)(s:Lab)(ps:List Lab):Prop where
 sp:Lib.splitB ⟨#[c]⟩ 0 (Lib.countB ⟨s.toArray⟩ ⟨#[c]⟩) ⟨s.toArray⟩=ps.map fun l=>⟨l.toArray⟩
 ct:Lib.countB ⟨s.toArray⟩ ⟨#[c]⟩+1=ps.length
theorem ex_front(p r:Lab):(⟨(p++r).toArray⟩:ByteArray).extract 0 (p.length+0)=⟨p.toArray⟩:=by
 apply ByteArray.ext
 rw[ByteArray.data_extract]
 simp
theorem ex_back(p:Lab)(c:UInt8)(r:Lab):(⟨(p++c::r).toArray⟩:ByteArray).extract (p.length+(⟨#[c]⟩:ByteArray).size) (⟨(p++c::r).toArray⟩:ByteArray).size=⟨r.toArray⟩:=by
 have e1:(⟨#[c]⟩:ByteArray).size=1:=rfl
 have e2:(⟨(p++c::r).toArray⟩:ByteArray).size=p.length+1+r.length:=by
  show(p++c::r).toArray.size=_
  simp;omega
 rw[e1,e2]
 apply ByteArray.ext
 rw[ByteArray.data_extract]
 apply Array.toList_inj.1
 simp
theorem zaI(sep p q:Lab)(r:List Lab):zaL sep (p::q::r)=p++(sep++zaL sep (q::r)):=by
 simp[zaL]
theorem zkq{sep x:Lab}:zaL sep [x]=x:=by simp[zaL]
theorem zeC(c:UInt8):∀(r:List Lab) (p:Lab),(∀x∈p::r,c∉x)→SplC c (zaL [c] (p::r)) (p::r)
 | [],p,h=>by
  have h0:c∉p:=h p (List.mem_cons_self ..)
  have hc:Lib.countB ⟨p.toArray⟩ ⟨#[c]⟩=0:=by
   show Lib.count p [c]=0
   rw[Lib.count_one]
   exact List.count_eq_zero.2 h0
  rw[zkq]
  exact⟨by rw[hc];rfl,by rw[hc];rfl⟩
 |q::r,p,h=>by
  have ih:=zeC c r q fun x hx=>h x (List.mem_cons_of_mem _ hx)
  have h0:c∉p:=h p (List.mem_cons_self ..)
  rw[zaI]
  obtain⟨u,hu⟩:∃u,zaL [c] (q::r)=u:=⟨_,rfl⟩
  rw[hu]at ih ⊢
  have hc:Lib.countB ⟨(p++c::u).toArray⟩ ⟨#[c]⟩=Lib.countB ⟨u.toArray⟩ ⟨#[c]⟩+1:=by
   show Lib.count (p++c::u) [c]=Lib.count u [c]+1
   rw[Lib.count_one,Lib.count_one,List.count_append,List.count_eq_zero.2 h0,List.count_cons_self,Nat.zero_add]
  have hi:Lib.indexB ⟨(p++c::u).toArray⟩ ⟨#[c]⟩=(p.length:Int):=ix_at c u p h0
  show SplC c (p++c::u) _
  refine⟨?_,by rw[hc,ih.ct];rfl⟩
  rw[hc,Lib.splitB_hit _ _ _ _ _ hi,ex_back,ih.sp,ex_front]
  rfl
theorem zgL{p:UInt8→Bool}:∀l:Lab,(∀c∈l,p c=true)→l.dropWhile p=[]
 | [],_=>rfl
 |c::l,h=>by rw[List.dropWhile_cons_of_pos (h c (List.mem_cons_self ..))];exact zgL l fun x hx=>h x (List.mem_cons_of_mem _ hx)
theorem zhK{l cs:Lab}(h:∀c∈l,c∈cs):Lib.trimS l cs=[]:=by
 have h1:Lib.trimRightS l cs=[]:=by
  unfold Lib.trimRightS
  rw[zgL _ fun c hc=>List.contains_iff_mem.2 (h c (List.mem_reverse.1 hc))]
  rfl
 unfold Lib.trimS
 rw[h1]
 rfl
theorem zc6:∀k,k<16→hexV (hexD k)=some k∧hexD k∈digs16∧hexD k≠58∧hexD k≠92∧hexD k≠34∧hexD k≠32:=by decide
theorem zfT:∀(k n:Nat),n≤k→∀c∈hexU n,∃j,j<16∧c=hexD j
 |0,n,h,c,hc=>by
  rw[zb7 (by omega)]at hc
  exact⟨n,by omega,List.mem_singleton.1 hc⟩
 |k+1,n,h,c,hc=>by
  by_cases h1:n<16
  ·rw[zb7 h1]at hc
   exact⟨n,h1,List.mem_singleton.1 hc⟩
  ·rw[zdn h1]at hc
   rcases List.mem_append.1 hc with h2|h2
   ·exact zfT k (n / 16) (by omega) c h2
   ·exact⟨n % 16,Nat.mod_lt _ (by decide),List.mem_singleton.1 h2⟩
theorem zdm(l:Lab){k:Nat}(h:k<16):za9 (l++ [hexD k])=16*za9 l+k:=by
 unfold za9
 rw[List.foldl_append]
 simp[(zc6 k h).1]
theorem zia:∀(k n:Nat),n≤k→za9 (hexU n)=n
 |0,n,h=>by
  rw[zb7 (by omega)]
  exact(zdm [] (k:=n) (by omega)).trans (by show 16*0+n=n;omega)
 |k+1,n,h=>by
  by_cases h1:n<16
  ·rw[zb7 h1]
   exact(zdm [] (k:=n) (by omega)).trans (by show 16*0+n=n;omega)
  ·rw[zdn h1,zdm _ (Nat.mod_lt _ (by decide)),zia k (n / 16) (by omega)]
   omega
theorem zkx(n:Nat):hexU n≠ []:=by
 by_cases h1:n<16
 ·rw[zb7 h1];simp
 ·rw[zdn h1];simp
end Go.Proofs.YtihbdhjibplldaaGreatDoor
