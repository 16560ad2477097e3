/-
  Texts of a proof, joined: G4, G5, HX, HY.
  Conditions: none.
-/
import Derived.Test.YtanmnkbccfcagaaGreatDoorQTU07
set_option linter.unusedVariables false
set_option linter.unusedSimpArgs false
set_option linter.defProp false
set_option linter.unnecessarySimpa false
set_option maxHeartbeats 8000000
namespace Go.Proofs.YtanmnkbccfcagaaGreatDoor
open Go
set_option maxRecDepth 10000
theorem zfo{w0 w:World}(hE0:Ext w0 w){cs:List Value}{r:RecL}(hr:RecAt w0 cs r)(hf:DatF r.dat)(ho:(∀l∈r.owner,l.length≤1000000000)∧r.owner.length≤1000000000):
  Fn Tryz.prog 49 #[.agg cs.toArray] w (fun v w'=>Ext w w'∧∃e:Int,v=vi e∧(e=0→zaM r.owner=0∧(∀n∈r.dat.names,zaM n=0)∧(zfF r.dat.ty→r.dat.names.length=1))):=by
 obtain⟨ow,ds,rfl,h1,h2⟩:=hr.ex
 obtain⟨b1,m1,e1,b2,m2,e2,b3,m3,e3,b4,m4,e4,hds⟩:=h2.open
 rw[hds]
 refine enter Tryz.func49 Tryz.ntmps49 rfl rfl ?_
 repeat refine c_r ?_
 refine rg0 ?_
 repeat refine c_r ?_
 refine zaI ?_
 intro w1 hE1 hs1 hA
 have p0:zaf w1 (some ⟨w.heap.size,0,Option.none⟩)=some ow:=zac hA rfl
 have p1:zaf w1 (some ⟨w.heap.size,1,Option.none⟩)=some (v32 r.ttl):=zac hA rfl
 have p2:zav w1 (some ⟨w.heap.size,2,Option.none⟩) 5=some ds:=by
  have h7:=za4 (n:=7) (l:=[ow,v32 r.ttl,vi r.dat.ty,.slice b1 m1 e1,.slice b2 m2 e2,.slice b3 m3 e3,.slice b4 m4 e4]) hA rfl
  have:=zcd (m:=2) (k:=5) h7
  rw[zaW]at this
  rw[hds];exact this
 refine rq ?_;intro gd K hgd hK
 try simp (disch:=first|omega|assumption|rfl) only[go_sem,p0,Nat.add_zero]
 refine Fn.mono (zbS w1 ow r.owner (h1.ext (hE0.trans hE1)) ho.1 ho.2) ?_
 rintro _ w2 ⟨rfl,hE2⟩
 try simp only[go_sem]
 refine hK _ _ ?_;clear hK hgd;clear K;try clear gd
 have hE12:=hE1.trans hE2
 have p1':=zaa hE2 p1
 have p2':=zai hE2 p2
 repeat refine c_r ?_
 refine rg0 ?_
 repeat refine c_r ?_
 by_cases h0:zaM r.owner=0
 rotate_left
 ·refine zaL (t:=!decide (zaM r.owner=0)) (vr0) ?_ (fun h=>by rw[decide_eq_false h0]at h;cases h)
  intro _
  repeat refine c_r ?_
  refine rg0 ?_
  repeat refine c_r ?_
  refine rt0 Tryz.ntmps49 ?_
  exact⟨hE12,_,rfl,fun h=>absurd h h0⟩
 refine zaL (t:=!decide (zaM r.owner=0)) (vr0) (fun h=>by rw[decide_eq_true h0]at h;cases h) ?_
 intro _
 repeat refine c_r ?_
 refine rg2 p1' Nat.zero_add ?_
 repeat refine c_r ?_
 refine wc0 ?_ ?_
 ·intro _
  repeat (first|refine c_r ?_|refine rg0 ?_)
  refine rt0 Tryz.ntmps49 ?_
  exact⟨hE12,7,rfl,fun h=>by cases h⟩
 intro _
 repeat refine c_r ?_
 refine rq ?_;intro gd K hgd hK
 try simp (disch:=first|omega|assumption|rfl) only[go_sem,p2',Nat.zero_add]
 refine Fn.mono (zeI (hE0.trans hE12) h2 hf) ?_
 rintro _ w3 ⟨hE3,e,rfl,he⟩
 try simp only[go_sem]
 refine hK _ _ ?_;clear hK hgd;clear K;try clear gd
 repeat refine c_r ?_
 refine rt0 Tryz.ntmps49 ?_
 exact⟨hE12.trans hE3,e,rfl,fun h=>⟨h0,he h⟩⟩
theorem few_f{n:Nm}(h:few n=true):(∀l∈n,l.length≤1000000000)∧n.length≤1000000000:=by
 simp only[few,Bool.and_eq_true,List.all_eq_true,decide_eq_true_eq]at h
 exact⟨fun l hl=>by have:=h.2 l hl;omega,by omega⟩
theorem DFew_ok{w0 w:World}(hE0:Ext w0 w){cs:List Value}{d:DatL}(hd:DatAt w0 cs d):
  Fn Tryz.prog 29 #[.agg cs.toArray] w (fun v w'=>Ext w w'∧∃b:Bool,v= .bool b∧(b=true→DatF d)):=by
 obtain⟨nm,nu,tx,rw',rfl,⟨vals,⟨an,cn,rfl,hcn,hgn⟩,hvl,hvr⟩,⟨au,cu,rfl,hcu,hgu⟩,⟨at1,ct,rfl,hct,hgt⟩,⟨ar,cr,rfl,hcr,hgr⟩⟩:=hd.ex
 simp only[List.length_map]at hcu hgu hct hgt hcr hgr
 simp only[List.length_map]
 refine enter Tryz.func29 Tryz.ntmps29 rfl rfl ?_
 repeat refine c_r ?_
 refine rg0 ?_
 repeat refine c_r ?_
 refine zaI ?_
 intro w1 hE1 hs1 hA
 have p1:zaf w1 (some ⟨w.heap.size,1,Option.none⟩)=some (.slice an vals.length cn):=zac hA rfl
 have p2:zaf w1 (some ⟨w.heap.size,2,Option.none⟩)=some (.slice au d.nums.length cu):=zac hA rfl
 have p3:zaf w1 (some ⟨w.heap.size,3,Option.none⟩)=some (.slice at1 d.texts.length ct):=zac hA rfl
 have p4:zaf w1 (some ⟨w.heap.size,4,Option.none⟩)=some (.slice ar d.raw.length cr):=zac hA rfl
 refine zaA (Q:=fun e σ' ds' v'=>e= .normal∧ds'=[]∧σ' 1= .pointer (some ⟨w.heap.size,0,Option.none⟩)∧v'=w1∧∃bb,σ' 26= .bool bb∧(bb=false→vals.length≤8∧d.nums.length≤12∧d.texts.length≤40∧d.raw.length≤1100)) ?_ ?_
 ·by_cases hA1:(vals.length:Int)>8
  ·refine rq ?_;intro gd K hgd hK
   have hg4:∀n σ b,zap gd n σ (some (4,b))=zah (ev n σ (.tmp 9)) b:=(fun n σ b=>by rw[zab,show gd 4=some 9 from(by rw[hgd];rfl)];rfl);have hg10:∀n σ b,zap gd n σ (some (10,b))=zah (ev n σ (.tmp 15)) b:=(fun n σ b=>by rw[zab,show gd 10=some 15 from(by rw[hgd];rfl)];rfl);have hg16:∀n σ b,zap gd n σ (some (16,b))=zah (ev n σ (.tmp 21)) b:=(fun n σ b=>by rw[zab,show gd 16=some 21 from(by rw[hgd];rfl)];rfl)
   try simp (disch:=first|omega|assumption|rfl) only[go_sem,p1,Nat.zero_add,decide_eq_true hA1,zbg,↓hg4,↓hg10,↓hg16]
   refine hK _ _ ?_;clear hK hgd;clear K;try clear gd
   exact⟨rfl,rfl,vq0,rfl,_,vr0,fun h=>by cases h⟩
  by_cases hA2:(d.nums.length:Int)>12
  ·refine rq ?_;intro gd K hgd hK
   have hg4:∀n σ b,zap gd n σ (some (4,b))=zah (ev n σ (.tmp 9)) b:=(fun n σ b=>by rw[zab,show gd 4=some 9 from(by rw[hgd];rfl)];rfl);have hg10:∀n σ b,zap gd n σ (some (10,b))=zah (ev n σ (.tmp 15)) b:=(fun n σ b=>by rw[zab,show gd 10=some 15 from(by rw[hgd];rfl)];rfl);have hg16:∀n σ b,zap gd n σ (some (16,b))=zah (ev n σ (.tmp 21)) b:=(fun n σ b=>by rw[zab,show gd 16=some 21 from(by rw[hgd];rfl)];rfl)
   try simp (disch:=first|omega|assumption|rfl) only[go_sem,p1,p2,Nat.zero_add,decide_eq_false hA1,decide_eq_true hA2,zbg,↓hg4,↓hg10,↓hg16]
   refine hK _ _ ?_;clear hK hgd;clear K;try clear gd
   exact⟨rfl,rfl,vq0,rfl,_,vr0,fun h=>by cases h⟩
  by_cases hA3:(d.texts.length:Int)>40
  ·refine rq ?_;intro gd K hgd hK
   have hg4:∀n σ b,zap gd n σ (some (4,b))=zah (ev n σ (.tmp 9)) b:=(fun n σ b=>by rw[zab,show gd 4=some 9 from(by rw[hgd];rfl)];rfl);have hg10:∀n σ b,zap gd n σ (some (10,b))=zah (ev n σ (.tmp 15)) b:=(fun n σ b=>by rw[zab,show gd 10=some 15 from(by rw[hgd];rfl)];rfl);have hg16:∀n σ b,zap gd n σ (some (16,b))=zah (ev n σ (.tmp 21)) b:=(fun n σ b=>by rw[zab,show gd 16=some 21 from(by rw[hgd];rfl)];rfl)
   try simp (disch:=first|omega|assumption|rfl) only[go_sem,p1,p2,p3,Nat.zero_add,decide_eq_false hA1,decide_eq_false hA2,decide_eq_true hA3,zbg,↓hg4,↓hg10,↓hg16]
   refine hK _ _ ?_;clear hK hgd;clear K;try clear gd
   exact⟨rfl,rfl,vq0,rfl,_,vr0,fun h=>by cases h⟩
  by_cases hA4:(d.raw.length:Int)>1100
  ·refine rq ?_;intro gd K hgd hK
   have hg4:∀n σ b,zap gd n σ (some (4,b))=zah (ev n σ (.tmp 9)) b:=(fun n σ b=>by rw[zab,show gd 4=some 9 from(by rw[hgd];rfl)];rfl);have hg10:∀n σ b,zap gd n σ (some (10,b))=zah (ev n σ (.tmp 15)) b:=(fun n σ b=>by rw[zab,show gd 10=some 15 from(by rw[hgd];rfl)];rfl);have hg16:∀n σ b,zap gd n σ (some (16,b))=zah (ev n σ (.tmp 21)) b:=(fun n σ b=>by rw[zab,show gd 16=some 21 from(by rw[hgd];rfl)];rfl)
   try simp (disch:=first|omega|assumption|rfl) only[go_sem,p1,p2,p3,p4,Nat.zero_add,decide_eq_false hA1,decide_eq_false hA2,decide_eq_false hA3,decide_eq_true hA4,zbg,↓hg4,↓hg10,↓hg16]
   refine hK _ _ ?_;clear hK hgd;clear K;try clear gd
   exact⟨rfl,rfl,vq0,rfl,_,vr0,fun h=>by cases h⟩
  ·refine rq ?_;intro gd K hgd hK
   have hg4:∀n σ b,zap gd n σ (some (4,b))=zah (ev n σ (.tmp 9)) b:=(fun n σ b=>by rw[zab,show gd 4=some 9 from(by rw[hgd];rfl)];rfl);have hg10:∀n σ b,zap gd n σ (some (10,b))=zah (ev n σ (.tmp 15)) b:=(fun n σ b=>by rw[zab,show gd 10=some 15 from(by rw[hgd];rfl)];rfl);have hg16:∀n σ b,zap gd n σ (some (16,b))=zah (ev n σ (.tmp 21)) b:=(fun n σ b=>by rw[zab,show gd 16=some 21 from(by rw[hgd];rfl)];rfl)
   try simp (disch:=first|omega|assumption|rfl) only[go_sem,p1,p2,p3,p4,Nat.zero_add,decide_eq_false hA1,decide_eq_false hA2,decide_eq_false hA3,decide_eq_false hA4,zbg,↓hg4,↓hg10,↓hg16]
   refine hK _ _ ?_;clear hK hgd;clear K;try clear gd
   exact⟨rfl,rfl,vq0,rfl,_,vr0,fun _=>⟨by omega,by omega,by omega,by omega⟩⟩
 rintro _ σ1 _ v1 ⟨rfl,rfl,h1,hv1,bb,h26,hbb⟩
 rw[hv1]
 clear hv1 v1
 repeat refine c_r ?_
 refine zaL (t:=bb) ((vq1 h26)) ?_ ?_
 ·intro _
  repeat (first|refine c_r ?_|refine rg0 ?_)
  refine rt0 Tryz.ntmps29 ?_
  exact⟨hE1,false,rfl,fun h=>by cases h⟩
 intro hb
 obtain⟨ln,lu,lt,lr⟩:=hbb hb
 repeat refine c_r ?_
 refine rg0 ?_
 repeat refine c_r ?_
 refine zaA (Q:=fun e σ' ds' v'=>ds'=[]∧Ext w1 v'∧((e= .exit 0∧σ' 1= .pointer (some ⟨w.heap.size,0,Option.none⟩)∧∀n∈d.names,few n=true)∨(e= .ret∧σ' 2= .bool false))) ?_ ?_
 ·refine zas (fun m σ ds A=>ds=[]∧∃(i:Nat),i+m=vals.length∧σ 3=vi i∧σ 1= .pointer (some ⟨w.heap.size,0,Option.none⟩)∧Ext w1 A∧∀j (h:j<d.names.length),j<i→few d.names[j]=true) vals.length ?_ ?_
  ·exact⟨rfl,0,by omega,vr0,(vq1 h1),Keep.refl _ _,fun j h hj=>absurd hj (by omega)⟩
  clear h1
  rintro m σ ds A ⟨rfl,i,him,h3,h1,hEA,hlow⟩
  have q1:=zaa hEA p1
  repeat refine c_r ?_
  refine rg4 h3 h1 q1 Nat.zero_add ?_
  repeat refine c_r ?_
  refine wc0 ?_ ?_
  ·intro hlt
   simp only[decide_eq_true_eq]at hlt
   have hi:i<vals.length:=by omega
   have hi0:(0:Int)≤(i:Int):=by omega
   have hi1:(i:Int)<(vals.length:Int):=by omega
   have hi1':(i:Int)+1=((i+1:Nat):Int):=by push_cast;rfl
   have hgi:=hgn i hi
   obtain⟨xN,rfl⟩:=Option.isSome_iff_exists.1 (zae hgi)
   have hgi':=zaa (hE0.trans (hE1.trans hEA)) hgi
   have hrow:=hvr i hi (by omega)
   obtain⟨n,hn⟩:∃n,d.names[i]'(by omega)=n:=⟨_,rfl⟩
   rw[hn]at hrow
   obtain⟨hv,hhv⟩:∃hv,vals[i]=hv:=⟨_,rfl⟩
   rw[hhv]at hgi' hrow
   repeat refine c_r ?_
   refine rq ?_;intro gd K hgd hK
   try simp (disch:=first|omega|assumption|rfl) only[go_sem,h3,h1,q1,Nat.zero_add,hi0,hi1,hgi']
   refine Fn.mono (zfs A hv n (hrow.ext (hE0.trans (hE1.trans hEA)))) ?_
   rintro _ A2 ⟨rfl,hA2⟩
   try simp only[go_sem]
   refine hK _ _ ?_;clear hK hgd;clear K;try clear gd
   repeat refine c_r ?_
   refine zaL (t:=!few n) (vr0) ?_ ?_
   ·intro _
    repeat refine c_r ?_
    refine rg0 ?_
    repeat refine c_r ?_
    exact⟨rfl,hEA.trans hA2,.inr ⟨rfl,vq0⟩⟩
   ·intro hfn
    repeat refine c_r ?_
    refine rg2 h3 hi1' ?_
    repeat refine c_r ?_
    refine⟨m - 1,by omega,rfl,i+1,by omega,vq0,(vq1 h1),hEA.trans hA2,fun j hj hji=>?_⟩
    by_cases hj2:j=i
    ·subst hj2;rw[hn];simpa using hfn
    ·exact hlow j hj (by omega)
  ·intro hge
   simp only[decide_eq_false_iff_not]at hge
   repeat refine c_r ?_
   refine⟨rfl,hEA,.inl ⟨rfl,(vq1 h1),fun n hn=>?_⟩⟩
   obtain⟨j,hj,rfl⟩:=List.getElem_of_mem hn
   exact hlow j hj (by omega)
 clear h1
 rintro e σ4 _ A ⟨rfl,hEA,⟨rfl,h1,hall⟩| ⟨rfl,h2⟩⟩
 rotate_left
 ·repeat refine c_r ?_
  refine rt1 h2 Tryz.ntmps29 ?_
  exact⟨hE1.trans hEA,false,rfl,fun h=>by cases h⟩
 have q3:=zaa hEA p3
 repeat refine c_r ?_
 refine rg0 ?_
 repeat refine c_r ?_
 refine zaA (Q:=fun e σ' ds' v'=>ds'=[]∧v'=A∧((e= .exit 2∧σ' 1= .pointer (some ⟨w.heap.size,0,Option.none⟩)∧∀l∈d.texts,l.length≤300)∨(e= .ret∧σ' 2= .bool false))) ?_ ?_
 ·refine zas (fun m σ ds B=>ds=[]∧∃(i:Nat),i+m=d.texts.length∧σ 4=vi i∧σ 1= .pointer (some ⟨w.heap.size,0,Option.none⟩)∧B=A∧∀j (h:j<d.texts.length),j<i→d.texts[j].length≤300) d.texts.length ?_ ?_
  ·exact⟨rfl,0,by omega,vr0,(vq1 h1),rfl,fun j h hj=>absurd hj (by omega)⟩
  clear h1
  rintro m σ ds B ⟨rfl,i,him,h4,h1,hB2,hlow⟩
  rw[hB2]
  clear hB2 B
  repeat refine c_r ?_
  refine rg4 h4 h1 q3 Nat.zero_add ?_
  repeat refine c_r ?_
  refine wc0 ?_ ?_
  ·intro hlt
   simp only[decide_eq_true_eq]at hlt
   have hi:i<d.texts.length:=by omega
   have hi0:(0:Int)≤(i:Int):=by omega
   have hi1:(i:Int)<(d.texts.length:Int):=by omega
   have hi1':(i:Int)+1=((i+1:Nat):Int):=by push_cast;rfl
   have hgi:=hgt i hi
   obtain⟨xT,rfl⟩:=Option.isSome_iff_exists.1 (zae hgi)
   have hgi':=zaa (hE0.trans (hE1.trans hEA)) hgi
   rw[List.getElem_map]at hgi'
   repeat refine c_r ?_
   refine rg7 h4 h1 q3 Nat.zero_add hi0 hi1 hgi' ?_
   repeat refine c_r ?_
   refine wc0 ?_ ?_
   ·intro hgt2
    repeat refine c_r ?_
    refine rg0 ?_
    repeat refine c_r ?_
    exact⟨rfl,rfl,.inr ⟨rfl,vq0⟩⟩
   ·intro hgt2
    simp only[decide_eq_false_iff_not]at hgt2
    repeat refine c_r ?_
    refine rg2 h4 hi1' ?_
    repeat refine c_r ?_
    refine⟨m - 1,by omega,rfl,i+1,by omega,vq0,(vq1 h1),rfl,fun j hj hji=>?_⟩
    by_cases hj2:j=i
    ·subst hj2;omega
    ·exact hlow j hj (by omega)
  ·intro hge
   simp only[decide_eq_false_iff_not]at hge
   repeat refine c_r ?_
   refine⟨rfl,rfl,.inl ⟨rfl,(vq1 h1),fun l hl=>?_⟩⟩
   obtain⟨j,hj,rfl⟩:=List.getElem_of_mem hl
   exact hlow j hj (by omega)
 clear h1
 rintro e σ6 _ v1 ⟨rfl,hv1,⟨rfl,h1,htl⟩| ⟨rfl,h2⟩⟩
 rotate_left
 ·rw[hv1]
  repeat refine c_r ?_
  refine rt1 h2 Tryz.ntmps29 ?_
  exact⟨hE1.trans hEA,false,rfl,fun h=>by cases h⟩
 rw[hv1]
 clear hv1 v1
 repeat (first|refine c_r ?_|refine rg0 ?_)
 refine rt0 Tryz.ntmps29 ?_
 exact⟨hE1.trans hEA,true,rfl,fun _=>⟨fun n hn=>few_f (hall n hn),by omega,by omega,by omega,fun l hl=>by have:=htl l hl;omega,by omega,by omega,⟨by omega,by omega,htl,by omega,hall⟩⟩⟩
theorem RsFew_ok{w0 w:World}(hE0:Ext w0 w){lv:Value}{R:List RecL}(hl:Rows 7 (RecAt w0) w lv R):
  Fn Tryz.prog 48 #[lv] w (fun v w'=>Ext w w'∧∃b:Bool,v= .bool b∧(b=true→R.length≤60∧∀r∈R,few r.owner=true∧DatF r.dat)):=by
 obtain⟨aR,cR,rfl,hcR,hgR⟩:=hl.open
 refine enter Tryz.func48 Tryz.ntmps48 rfl rfl ?_
 repeat refine c_r ?_
 refine rg0 ?_
 repeat refine c_r ?_
 refine rg0 ?_
 repeat refine c_r ?_
 refine wc0 ?_ ?_
 ·intro _
  repeat (first|refine c_r ?_|refine rg0 ?_)
  refine rt0 Tryz.ntmps48 ?_
  exact⟨Keep.refl _ _,false,rfl,fun h=>by cases h⟩
 intro h60
 simp only[decide_eq_false_iff_not]at h60
 repeat refine c_r ?_
 refine rg0 ?_
 repeat refine c_r ?_
 refine zas (fun m σ ds A=>ds=[]∧∃(i:Nat),i+m=R.length∧σ 3=vi i∧σ 0= .slice aR R.length cR∧Ext w A∧∀j (h:j<R.length),j<i→few R[j].owner=true∧DatF R[j].dat) R.length ?_ ?_
 ·exact⟨rfl,0,by omega,vr0,vq0,Keep.refl _ _,fun j h hj=>absurd hj (by omega)⟩
 rintro m σ ds A ⟨rfl,i,him,h3,h0,hEA,hlow⟩
 repeat refine c_r ?_
 refine rg2 h3 h0 ?_
 repeat refine c_r ?_
 refine wc0 ?_ ?_
 ·intro hlt
  simp only[decide_eq_true_eq]at hlt
  have hi:i<R.length:=by omega
  have hi0:(0:Int)≤(i:Int):=by omega
  have hi1:(i:Int)<(R.length:Int):=by omega
  have hi1':(i:Int)+1=((i+1:Nat):Int):=by push_cast;rfl
  obtain⟨cr,hcr,hRr⟩:=hgR i hi
  obtain⟨r,hr⟩:∃r,R[i]=r:=⟨_,rfl⟩
  rw[hr]at hRr
  obtain⟨ow,dsc,hcrE,o1,o2,g0,g1,g2,gd⟩:=hRr.cells
  obtain⟨xR,rfl⟩:=Option.isSome_iff_exists.1 (zaR hcr)
  obtain⟨xi,hxi⟩:∃xi,adr (some xR) (i*7)=some xi:=⟨_,rfl⟩
  rw[hxi]at hcr
  obtain⟨xd,hxd⟩:∃xd,adr (some xi) 2=some xd:=⟨_,rfl⟩
  have rc:∀{x},Ext w x→zaf x (some xi)=some ow∧zav x (some xd) 5=some dsc:=fun {x} hx=>by
   have hcx:=zai hx hcr
   have e0:=zeB hcx g0
   have e5:=zcd (m:=2) (k:=5) hcx
   rw[zaH]at e0
   rw[hxd,gd]at e5
   exact⟨e0,e5⟩
  obtain⟨c0,_⟩:=rc hEA
  have hwA:=hE0.trans hEA
  repeat refine c_r ?_
  refine zaA (Q:=fun e σ' ds' v'=>e= .normal∧ds'=[]∧σ' 3=vi i∧σ' 0= .slice (some xR) R.length cR∧Ext A v'∧∃bb,σ' 28= .bool bb∧(bb=false→few r.owner=true∧DatF r.dat)) ?_ ?_
  ·cases hf:few r.owner with
   |false=>
    refine rq ?_;intro gd K hgd hK
    have hg7:∀n σ b,zap gd n σ (some (7,b))=zah (ev n σ (.tmp 20)) b:=(fun n σ b=>by rw[zab,show gd 7=some 20 from(by rw[hgd];rfl)];rfl)
    try simp (disch:=first|omega|assumption|rfl) only[go_sem,h0,h3,hi0,hi1,hxi,c0,zaH]
    refine Fn.mono (zfs A ow r.owner (o1.ext hwA)) ?_
    rintro _ A2 ⟨rfl,hA2⟩
    rw[hf]
    try simp (disch:=first|omega|assumption|rfl) only[go_sem,Bool.not_false,↓hg7]
    refine hK _ _ ?_;clear hK hgd;clear K;try clear gd
    exact⟨rfl,rfl,(vq1 h3),(vq1 h0),hA2,_,vr0,fun h=>by cases h⟩
   |true=>
    refine rq ?_;intro gd K hgd hK
    have hg7:∀n σ b,zap gd n σ (some (7,b))=zah (ev n σ (.tmp 20)) b:=(fun n σ b=>by rw[zab,show gd 7=some 20 from(by rw[hgd];rfl)];rfl)
    try simp (disch:=first|omega|assumption|rfl) only[go_sem,h0,h3,hi0,hi1,hxi,c0,zaH]
    refine Fn.mono (zfs A ow r.owner (o1.ext hwA)) ?_
    rintro _ A2 ⟨rfl,hA2⟩
    rw[hf]
    obtain⟨_,c5⟩:=rc (hEA.trans hA2)
    try simp (disch:=first|omega|assumption|rfl) only[go_sem,h0,h3,hi0,hi1,hxi,hxd,c5,Bool.not_true,↓hg7]
    refine Fn.mono (DFew_ok (hwA.trans hA2) o2) ?_
    rintro _ A3 ⟨hA3,b,rfl,hb⟩
    try simp (disch:=first|omega|assumption|rfl) only[go_sem,↓hg7]
    refine hK _ _ ?_;clear hK hgd;clear K;try clear gd
    exact⟨rfl,rfl,(vq1 h3),(vq1 h0),hA2.trans hA3,_,vr0,fun h=>⟨rfl,hb (by simpa using h)⟩⟩
  clear h3 h0
  rintro _ σ1 _ A1 ⟨rfl,rfl,h3,h0,hA1,bb,h28,hbb⟩
  repeat refine c_r ?_
  refine zaL (t:=bb) ((vq1 h28)) ?_ ?_
  ·intro _
   repeat (first|refine c_r ?_|refine rg0 ?_)
   refine rt0 Tryz.ntmps48 ?_
   exact⟨hEA.trans hA1,false,rfl,fun h=>by cases h⟩
  ·intro ht
   repeat refine c_r ?_
   refine rg2 h3 hi1' ?_
   repeat refine c_r ?_
   refine⟨m - 1,by omega,rfl,i+1,by omega,vq0,(vq1 h0),hEA.trans hA1,fun j hj hji=>?_⟩
   by_cases hj2:j=i
   ·subst hj2;rw[hr];exact hbb ht
   ·exact hlow j hj (by omega)
 ·intro hge
  simp only[decide_eq_false_iff_not]at hge
  repeat (first|refine c_r ?_|refine rg0 ?_)
  refine rt0 Tryz.ntmps48 ?_
  refine⟨hEA,true,rfl,fun _=>⟨by omega,fun r hr=>?_⟩⟩
  obtain⟨j,hj,rfl⟩:=List.getElem_of_mem hr
  exact hlow j hj (by omega)
structure GoodRs(R:List RecL):Prop where
 len:R.length≤60
 few:∀r∈R,few r.owner=true∧DatF r.dat
 own:∀r∈R,zaM r.owner=0
 names:∀r∈R,∀n∈r.dat.names,zaM n=0
 lead:∀r∈R,zfF r.dat.ty→r.dat.names.length=1
theorem ziy{w0 w:World}(hE0:Ext w0 w){lv:Value}{R:List RecL}(hl:Rows 7 (RecAt w0) w lv R):
  Fn Tryz.prog 14 #[lv] w (fun v w'=>Ext w w'∧∃b:Bool,v= .bool b∧(b=true→GoodRs R)):=by
 obtain⟨aR,cR,rfl,hcR,hgR⟩:=hl.open
 refine enter Tryz.func14 Tryz.ntmps14 rfl rfl ?_
 repeat refine c_r ?_
 refine rg0 ?_
 repeat refine c_r ?_
 refine rq ?_;intro gd K hgd hK
 try simp only[go_sem]
 refine Fn.mono (RsFew_ok hE0 hl) ?_
 rintro _ w1 ⟨hE1,b,rfl,hb⟩
 try simp only[go_sem]
 refine hK _ _ ?_;clear hK hgd;clear K;try clear gd
 repeat refine c_r ?_
 refine zaL (t:=!b) (vr0) ?_ ?_
 ·intro _
  repeat (first|refine c_r ?_|refine rg0 ?_)
  refine rt0 Tryz.ntmps14 ?_
  exact⟨hE1,false,rfl,fun h=>by cases h⟩
 intro hb2
 obtain⟨hRl,hRf⟩:=hb (by simpa using hb2)
 repeat refine c_r ?_
 refine rg0 ?_
 repeat refine c_r ?_
 refine zas (fun m σ ds A=>ds=[]∧∃(i:Nat),i+m=R.length∧σ 3=vi i∧σ 0= .slice aR R.length cR∧Ext w A∧∀j (h:j<R.length),j<i→zaM R[j].owner=0∧(∀n∈R[j].dat.names,zaM n=0)∧(zfF R[j].dat.ty→R[j].dat.names.length=1)) R.length ?_ ?_
 ·exact⟨rfl,0,by omega,vr0,vq0,hE1,fun j h hj=>absurd hj (by omega)⟩
 rintro m σ ds A ⟨rfl,i,him,h3,h0,hEA,hlow⟩
 repeat refine c_r ?_
 refine rg2 h3 h0 ?_
 repeat refine c_r ?_
 refine wc0 ?_ ?_
 ·intro hlt
  simp only[decide_eq_true_eq]at hlt
  have hi:i<R.length:=by omega
  have hi0:(0:Int)≤(i:Int):=by omega
  have hi1:(i:Int)<(R.length:Int):=by omega
  have hi1':(i:Int)+1=((i+1:Nat):Int):=by push_cast;rfl
  obtain⟨cr,hcr,hRr⟩:=hgR i hi
  obtain⟨r,hr⟩:∃r,R[i]=r:=⟨_,rfl⟩
  rw[hr]at hRr
  obtain⟨f1,f2⟩:=hRf r (hr▸List.getElem_mem hi)
  obtain⟨xR,rfl⟩:=Option.isSome_iff_exists.1 (zaR hcr)
  obtain⟨xi,hxi⟩:∃xi,adr (some xR) (i*7)=some xi:=⟨_,rfl⟩
  rw[hxi]at hcr
  have hcA:=zai hEA hcr
  have hwA:=hE0.trans hEA
  repeat refine c_r ?_
  refine rq ?_;intro gd K hgd hK
  try simp (disch:=first|omega|assumption|rfl) only[go_sem,h0,h3,hi0,hi1,hxi,hcA]
  refine Fn.mono (RcOf_ok hwA hRr f2.nn) ?_
  rintro _ A2 ⟨hA2,cs',nm',rfl,hx⟩
  try simp only[go_sem]
  refine Fn.mono (zfo (Keep.refl _ A2) (hx.at (hwA.trans hA2)) f2 (few_f f1)) ?_
  rintro _ A3 ⟨hA3,e,rfl,he⟩
  try simp only[go_sem]
  refine hK _ _ ?_;clear hK hgd;clear K;try clear gd
  repeat refine c_r ?_
  by_cases h0e:e=0
  ·refine zaL (t:=!decide (e=0)) (vr0) (fun h=>by rw[decide_eq_true h0e]at h;cases h) ?_
   intro _
   repeat refine c_r ?_
   refine rg2 h3 hi1' ?_
   repeat refine c_r ?_
   refine⟨m - 1,by omega,rfl,i+1,by omega,vq0,(vq1 h0),hEA.trans (hA2.trans hA3),fun j hj hji=>?_⟩
   by_cases hj2:j=i
   ·subst hj2;rw[hr];exact he h0e
   ·exact hlow j hj (by omega)
  ·refine zaL (t:=!decide (e=0)) (vr0) ?_ (fun h=>by rw[decide_eq_false h0e]at h;cases h)
   intro _
   repeat (first|refine c_r ?_|refine rg0 ?_)
   refine rt0 Tryz.ntmps14 ?_
   exact⟨hEA.trans (hA2.trans hA3),false,rfl,fun h=>by cases h⟩
 ·intro hge
  simp only[decide_eq_false_iff_not]at hge
  repeat (first|refine c_r ?_|refine rg0 ?_)
  refine rt0 Tryz.ntmps14 ?_
  have hall:∀r∈R,zaM r.owner=0∧(∀n∈r.dat.names,zaM n=0)∧(zfF r.dat.ty→r.dat.names.length=1):=fun r hr=>by
   obtain⟨j,hj,rfl⟩:=List.getElem_of_mem hr
   exact hlow j hj (by omega)
  exact⟨hEA,true,rfl,fun _=>⟨hRl,hRf,fun r hr=>(hall r hr).1,fun r hr=>(hall r hr).2.1,fun r hr=>(hall r hr).2.2⟩⟩
def Hz(S:Nat→Prop)(A:World)(P:World→Prop):Prop:=∀X,Keep S A X→P X
theorem Hz.now{S:Nat→Prop}{A:World}{P:World→Prop}(h:Hz S A P):P A:=h A (Keep.refl _ _)
theorem Hz.ext{S:Nat→Prop}{A B:World}{P:World→Prop}(h:Hz S A P)(hE:Ext A B):Hz S B P:=fun X hX=>h X ((hE.mono fun _ _ h=>h.elim).trans hX)
theorem Hz.app{S T S':Nat→Prop}{A B:World}{P:World→Prop}(h:Hz S A P)(hk:Keep T A B)(hT:∀b,b<A.heap.size→T b→S b)(hS:∀b,b<A.heap.size→S' b→S b):Hz S' B P:=fun X hX=>by
 have h1:Keep (fun b=>T b∨S' b) A B:=hk.mono fun _ _ h=> .inl h
 have h2:Keep (fun b=>T b∨S' b) B X:=hX.mono fun _ _ h=> .inr h
 exact h X ((h1.trans h2).mono fun b hb h=>h.elim (hT b hb) (hS b hb))
theorem row_hz{S:Nat→Prop}{A:World}{v:Value}{l:List Value}(hr:Row A v l)(hb:∀a n c,v= .slice (some a) n c→a.block<A.heap.size∧¬S a.block):Hz S A (fun X=>Row X v l):=fun X hX=>
 hr.blocks fun a n c hv=>hX.block _ (hb a n c hv).1 (hb a n c hv).2
def RecZ(S:Nat→Prop)(A:World)(cs:List Value)(r:RecL):Prop:=Hz S A (fun X=>RecAt X cs r)
theorem zd9(S:Nat→Prop)(A:World):ziw 7 (RecZ S A):=⟨fun h=>h.now.len,fun h=>h.now.ones⟩
theorem goodN_U{n:Nm}(h:zgJ n=true):NmT n:=by
 unfold zgJ at h
 simp only[Bool.and_eq_true,decide_eq_true_eq]at h
 have h1:=h.2
 exact⟨fun l hl=>by have:=(zcJ h1 l hl).2;omega,by have:=zgY h1;omega⟩
theorem few_T{n:Nm}(h:few n=true):NmT n:=by
 simp only[few,Bool.and_eq_true,List.all_eq_true,decide_eq_true_eq]at h
 exact⟨fun l hl=>by have:=h.2 l hl;omega,by omega⟩
theorem fold_T{n:Nm}(h:NmT n):NmT (zao n):=by
 refine⟨fun l hl=>?_,by unfold zao;rw[List.length_map];exact h.2⟩
 unfold zao at hl
 obtain⟨x,hx,rfl⟩:=List.mem_map.1 hl
 have:=h.1 x hx
 simpa [zaS] using this
theorem good_T{R:List RecL}(h:GoodRs R)(hn:∀r∈R,ziz r):∀r∈R,RecT (zc2 r)∧zcw (zc2 r):=fun r hr=>by
 obtain⟨h1,h2⟩:=h.few r hr
 obtain⟨⟨n1,n2,n3⟩,n4,n5⟩:=hn r hr
 obtain⟨f1,f2,f3,f4,f5⟩:=h2.f4
 have ow:=fold_T (few_T h1)
 have hnm:∀n∈(zc2 r).dat.names,NmT n:=fun n hn=>by
  obtain⟨x,hx,rfl⟩:=List.mem_map.1 hn
  exact fold_T (few_T (f5 x hx))
 have hnl:(zc2 r).dat.names.length≤8:=by show(r.dat.names.map zao).length≤8;rw[List.length_map];exact h2.n8
 have ow2:=ow.2
 refine⟨⟨ow,⟨n4,n5⟩,⟨n2,n3⟩,⟨⟨hnm,by omega,?_,n1,?_,?_,?_⟩,by omega⟩⟩,⟨ow.lb,?_,⟨fun n hn=>⟨(hnm n hn).lb,?_⟩,by omega,?_,?_,n1,?_⟩⟩⟩
 ·show r.dat.nums.length≤1000;omega
 ·show r.dat.texts.length≤1000;omega
 ·intro t ht
  have:=f3 t ht;omega
 ·show r.dat.raw.length≤2000;omega
 ·show(zao r.owner).length≤_;omega
 ·have:=(hnm n hn).2;omega
 ·show r.dat.nums.length≤_;omega
 ·show r.dat.texts.length≤_;omega
 ·show r.dat.raw.length≤_;omega
def zd3(wz p:Nat)(nv:Value):Nat→Prop:=fun b=>some b=nv.ownBlock∨(wz≤b∧b≤p)
theorem zd7{W:World}(hW:WY W){lv ov:Value}{R:List RecL}{o:Nm}(t:Nat)(hl:Rows 7 (RecAt W) W lv R)(hnum:∀r∈R,ziz r)(ho:Row W ov (o.map vs))(hok:NmOk o)(ht:t≤255):
  Fn Tryz.prog 3 #[lv,ov,.int .u8 t] W (fun v w'=>v= .bool true∧Ext W w'):=by
 obtain⟨aR,cR,rfl,hcR,hgR⟩:=hl.open
 refine enter Tryz.func3 Tryz.ntmps3 rfl rfl ?_
 refine go trivial ?_
 refine rc trivial (zg9 hW) ?_
 rintro _ w1 ⟨rfl,hE1⟩
 refine rgo trivial ?_
 refine rcg [(3,18),(8,23)] trivial (ziy hE1 (hl.ext hE1)) ?_
 rintro _ w2 ⟨hE2,b,rfl,hb⟩
 have hE12:=hE1.trans hE2
 cases b with
 |false=>
  refine reg [(3,18),(8,23)] trivial ?_
  refine go trivial ?_
  refine rt0 Tryz.ntmps3 ?_
  exact⟨rfl,hE12⟩
 |true=>
 have hG:=hb rfl
 refine rdg [(3,18),(8,23)] trivial (NGood_ok w2 ov o (ho.ext hE12)) ?_
 rintro _ w3 ⟨rfl,hE3⟩
 have hE13:=hE12.trans hE3
 cases hg2:zgJ o with
 |false=>
  refine reg [(3,18),(8,23)] trivial ?_
  refine go trivial ?_
  refine rt0 Tryz.ntmps3 ?_
  exact⟨rfl,hE13⟩
 |true=>
 by_cases h0:R.length=0
 ·have d0:decide ((R.length:Int)=0)=true:=decide_eq_true (by omega)
  refine reg [(3,18),(8,23)] d0 ?_
  refine go trivial ?_
  refine rt0 Tryz.ntmps3 ?_
  exact⟨rfl,hE13⟩
 have d0:decide ((R.length:Int)=0)=false:=decide_eq_false (by omega)
 refine reg [(3,18),(8,23)] d0 ?_
 refine go trivial ?_
 have hlen:=hG.len
 have hoT:=goodN_U hg2
 refine zaA (Q:=fun e σ' ds' v'=>e= .exit 0∧ds'=[]∧Ext W v'∧(σ' 1=ov∧σ' 2= .int .u8 t)∧∃sv,σ' 7=sv∧Owns 7 (RecZ (fun b=>some b=sv.ownBlock) v') W.heap.size v' 35 sv (R.map zc2)) ?_ ?_
 ·refine zas (fun m σ ds A=>ds=[]∧∃i,i+m=R.length∧(σ 0= .slice aR R.length cR∧σ 1=ov∧σ 2= .int .u8 t∧σ 8=vi i)∧Ext W A∧∃sv,σ 7=sv∧Owns 7 (RecZ (fun b=>some b=sv.ownBlock) A) W.heap.size A 35 sv ((R.take i).map zc2)) R.length ?_ ?_
  ·exact⟨rfl,0,by omega,⟨vr0,vr0,vr0,vr0⟩,hE13,_,vr0,Owns.nil _ _ _ _ _⟩
  rintro m σ ds A ⟨rfl,i,him,⟨s0,s1,s2,s8⟩,hEA,sv,s7,hown⟩
  by_cases hi:i<R.length
  rotate_left
  ·have d1:decide ((i:Int)<(R.length:Int))=false:=decide_eq_false (by omega)
   refine go (an6 s0 s1 s2 s8 s7 d1) ?_
   rw[List.take_of_length_le (by omega)]at hown
   exact⟨rfl,rfl,hEA,⟨(vq1 s1),(vq1 s2)⟩,sv,(vq1 s7),hown⟩
  have d1:decide ((i:Int)<(R.length:Int))=true:=decide_eq_true (by omega)
  obtain⟨cs,g0,hcs⟩:=hgR i hi
  have g:=zai hEA g0
  obtain⟨r,hr⟩:∃r,R[i]=r:=⟨_,rfl⟩
  rw[hr]at hcs
  have hrR:r∈R:=hr▸List.getElem_mem hi
  obtain⟨xa,rfl⟩:=Option.isSome_iff_exists.1 (zaR g)
  obtain⟨xi,hxi⟩:∃xi,adr (some xa) (i*7)=some xi:=⟨_,rfl⟩
  rw[hxi]at g g0
  have hi0:(0:Int)≤(i:Int):=by omega
  have hi1:(i:Int)<(R.length:Int):=by omega
  have hi2:(i:Int)+1=((i+1:Nat):Int):=by push_cast;rfl
  have hc7:=hcs.len
  obtain⟨ow,ds',hce,how,hdat⟩:=hcs.ex
  obtain⟨nm,nu,tx,rw',hde,hnm,hnu,htx,hrw⟩:=hdat.ex
  obtain⟨vals,⟨an,cn,rfl,hcn,hgn⟩,hvl,hvr⟩:=hnm
  subst hde
  subst hce
  have hfew:=hG.few r hrR
  have hoR:=few_T hfew.1
  have hoR2:=hoR.2
  have hnf:∀n∈r.dat.names,NmT n:=fun n hn=>few_T (hfew.2.f4.2.2.2.2 n hn)
  refine go (an6 s0 s1 s2 s8 s7 d1) ?_
  refine rq ?_;intro gd K hgd hK
  try simp (disch:=first|omega|assumption|rfl) only[go_sem,s0,s8,hi0,hi1,hxi,g]
  refine zd8 (P:=Tryz.prog) (l:=ow::v32 r.ttl::[vi r.dat.ty,.slice an vals.length cn,nu,tx,rw']) (by rfl) hcs.ones (by rfl) rfl ?_
  intro v1 hEv1 hsv1 hBv
  try simp only[go_sem]
  refine hK _ _ ?_;clear hK hgd;clear K;try clear gd
  obtain⟨p,hp⟩:∃p,A.heap.size=p:=⟨_,rfl⟩
  rw[hp]at hsv1 hBv
  simp only[hp]
  have hEw:=hEA.trans hEv1
  have o0:zaf v1 (some ⟨p,0,Option.none⟩)=some ow:=zbF (j:=0) hBv rfl
  refine go trivial ?_
  refine rq ?_;intro gd K hgd hK
  try simp (disch:=first|omega|assumption|rfl) only[go_sem,o0,Nat.add_zero]
  refine Fn.mono (zgr v1 ow r.owner (how.ext hEw) hoR.lb (by omega)) ?_
  rintro fo v2 ⟨hfo,hE2'⟩
  obtain⟨foa,foc,hfoe,_⟩:=id hfo.1
  try simp only[go_sem]
  refine zen (P:=Tryz.prog) (j:=0) (u:=fo) (Ext.at hE2' hBv) (by simp) (by rw[hfoe];rfl) rfl rfl ?_
  intro v3 hsv3 hBv3 hkv3
  try simp only[go_sem]
  refine hK _ _ ?_;clear hK hgd;clear K;try clear gd
  refine go trivial ?_
  refine rq ?_;intro gd K hgd hK
  try simp only[go_sem]
  refine zen (P:=Tryz.prog) (j:=3) (u:= .slice Option.none 0 0) hBv3 (by simp) rfl rfl rfl ?_
  intro v4 hsv4 hBv4 hkv4
  try simp only[go_sem]
  refine hK _ _ ?_;clear hK hgd;clear K;try clear gd
  simp only[List.set_cons_zero,List.set_cons_succ]at hBv4
  have hpW:W.heap.size≤p:=by have:=hEA.size;omega
  have hsz2:=hE2'.size
  have hEA4:Ext A v4:=Keep.to_ext (Keep.to_ext (hEv1.trans hE2') rfl (fun b hb=>by omega) hkv3) rfl (fun b hb=>by omega) hkv4
  have hfo4:Hz (zd3 W.heap.size p (.slice Option.none 0 0)) v4 (fun X=>Row X fo ((zao r.owner).map vs)):=by
   refine row_hz (((hfo.1.blocks (x:=v3) fun a n c hv=>?_).blocks (x:=v4) fun a n c hv=>?_):Row v4 fo ((zao r.owner).map vs)) fun a n c hv=>?_
   ·have:=hfo.2 a n c hv
    exact hkv3.block _ this.2 (by omega)
   ·have:=hfo.2 a n c hv
    exact hkv4.block _ (by omega) (by omega)
   ·have:=hfo.2 a n c hv
    refine⟨by omega,?_⟩
    rintro(h| ⟨_,h⟩)
    ·cases h
    ·omega
  have c3:zaf W (adr (some xi) 3)=some (.slice an vals.length cn):=zbK g0 (j:=3) (by simp)
  obtain⟨x3,hx3⟩:∃x3,adr (some xi) 3=some x3:=⟨_,rfl⟩
  rw[hx3]at c3
  obtain⟨x2,hx2⟩:∃x2,adr (some xi) 2=some x2:=⟨_,rfl⟩
  have hx3':adr (some x2) 1=some x3:=by rw[←hx2,zcv];exact hx3
  have hx3b:x3.block<W.heap.size:=zc4 c3
  refine go trivial ?_
  refine zaA (Q:=fun e σ' ds' v'=>e= .exit 2∧ds'=[]∧(σ' 0= .slice (some xa) R.length cR∧σ' 1=ov∧σ' 2= .int .u8 t∧σ' 7=sv∧σ' 8=vi i∧σ' 9= .pointer (some ⟨p,0,Option.none⟩))∧Ext A v'∧∃nv nvals,v'.heap[p]? =some (.cells [fo,v32 r.ttl,vi r.dat.ty,nv,nu,tx,rw'].toArray 35 (0,0))∧Own (p+1) v' 24 nv nvals∧nvals.length=vals.length∧
   (∀j (h:j<nvals.length) (h':j<r.dat.names.length),Hz (zd3 W.heap.size p nv) v' (fun X=>Row X nvals[j] ((zao r.dat.names[j]).map vs)))∧Hz (zd3 W.heap.size p nv) v' (fun X=>Row X fo ((zao r.owner).map vs))) ?_ ?_
  ·refine zas (fun m σ ds Z=>ds=[]∧∃k,k+m=vals.length∧(σ 0= .slice (some xa) R.length cR∧σ 1=ov∧σ 2= .int .u8 t∧σ 7=sv∧σ 8=vi i∧σ 9= .pointer (some ⟨p,0,Option.none⟩)∧σ 10=vi k)∧Ext A Z∧∃nv nvals,Z.heap[p]? =some (.cells [fo,v32 r.ttl,vi r.dat.ty,nv,nu,tx,rw'].toArray 35 (0,0))∧Own (p+1) Z 24 nv nvals∧nvals.length=k∧
    (∀j (h:j<nvals.length) (h':j<r.dat.names.length),Hz (zd3 W.heap.size p nv) Z (fun X=>Row X nvals[j] ((zao r.dat.names[j]).map vs)))∧Hz (zd3 W.heap.size p nv) Z (fun X=>Row X fo ((zao r.owner).map vs))) vals.length ?_ ?_
   ·exact⟨rfl,0,by omega,⟨(vq1 s0),(vq1 s1),(vq1 s2),(vq1 s7),(vq1 s8),vr0,vr0⟩,hEA4,_,[],hBv4,Own.nil _ _ _,rfl,fun j h=>absurd h (by simp),hfo4⟩
   clear s0 s1 s2 s8 s7 hBv hBv3 hBv4 hfo4 o0
   rintro m' σ ds Z ⟨rfl,k,hkm,⟨s0,s1,s2,s7,s8,s9,s10⟩,hEZ,nv,nvals,hBZ,hownZ,hnl,hnr,hfoZ⟩
   have hEWZ:=hEA.trans hEZ
   have c3z:=zaa hEWZ c3
   by_cases hk:k<vals.length
   rotate_left
   ·have d2:decide ((k:Int)<(vals.length:Int))=false:=decide_eq_false (by omega)
    refine go (an9 s0 s1 s2 s7 s8 s9 s10 d2 (an6 hi0 hi1 hxi hx2 hx3' c3z)) ?_
    exact⟨rfl,rfl,⟨(vq1 s0),(vq1 s1),(vq1 s2),(vq1 s7),(vq1 s8),(vq1 s9)⟩,hEZ,nv,nvals,hBZ,hownZ,by omega,hnr,hfoZ⟩
   have d2:decide ((k:Int)<(vals.length:Int))=true:=decide_eq_true (by omega)
   refine go (an9 s0 s1 s2 s7 s8 s9 s10 d2 (an6 hi0 hi1 hxi hx2 hx3' c3z)) ?_
   have hgk:=hgn k hk
   obtain⟨xN,rfl⟩:=Option.isSome_iff_exists.1 (zae hgk)
   obtain⟨xk,hxk⟩:∃xk,adr (some xN) k=some xk:=⟨_,rfl⟩
   rw[hxk]at hgk
   have hxkb:xk.block<W.heap.size:=zc4 hgk
   have hkn:k<r.dat.names.length:=by omega
   have hrow:=hvr k hk hkn
   obtain⟨nvk,hnvk⟩:∃v,vals[k]=v:=⟨_,rfl⟩
   obtain⟨n,hn⟩:∃n,r.dat.names[k]=n:=⟨_,rfl⟩
   rw[hnvk,hn]at hrow
   rw[hnvk]at hgk
   have hnT:=hnf n (hn▸List.getElem_mem hkn)
   have hnT2:=hnT.2
   have hk0:(0:Int)≤(k:Int):=by omega
   have hk1:(k:Int)<(vals.length:Int):=by omega
   have hk2:(k:Int)+1=((k+1:Nat):Int):=by push_cast;rfl
   have hpZ:p<Z.heap.size:=(Array.getElem?_eq_some_iff.1 hBZ).1
   have qn:zaf Z (some ⟨p,3,Option.none⟩)=some nv:=zbF (j:=3) hBZ rfl
   have hn8:=hfew.2.n8
   refine zaK (fun i=>i==17) [(0,true),(1,true),(2,true),(3,true),(4,true),(5,true),(6,true),(7,true),(8,true),(9,true),(10,true),(11,true),(12,false),(13,false),(14,false),(15,true),(16,true),(17,false)] (zbR (p+1)) mixed (by kernel_rfl) ?_;intro gd K x hgd hx hxe hK;have hx0:=zbc hxe;clear hxe
   have qnx:=zaa hx0 qn
   have c3x:=zaa hx0 c3z
   have hgx:=zaa (hEWZ.trans hx0) hgk
   have hxs:=hx0.size
   simp (disch:=first|omega|assumption|rfl) only[go_sem,s0,s8,s9,s10,qnx,c3x,hgx,hi0,hi1,hk0,hk1,hxi,hx2,hx3',hxk,Nat.zero_add,Nat.mul_one]
   refine⟨zaU (by omega),zf8 (by omega),zf8 (by omega),?_⟩
   refine Fn.mono (zgr x nvk n (hrow.ext (hEWZ.trans hx0)) hnT.lb (by omega)) ?_
   rintro fv y1 ⟨hfv,hy1⟩
   refine⟨.inr hy1.keep,?_⟩
   obtain⟨fva,fvc,hfve,_⟩:=id hfv.1
   simp (disch:=first|omega|assumption|rfl) only[go_sem]
   refine zbM (z:= .slice Option.none 0 0) (v:=fv) rfl rfl rfl rfl (by rw[hfve];rfl) ?_
   intro y2 hy2 hys2 hyo
   refine⟨.inr hy2.keep,?_⟩
   simp (disch:=first|omega|assumption|rfl) only[go_sem]
   have hxy:=(hx0.trans hy1).trans hy2
   have hsy1:=hy1.size
   have hsxy:=hxy.size
   refine zbr (hownZ.ext hxy) hyo.row rfl rfl rfl rfl rfl rfl (vr0) (vr0) (fun q hq=>by rw[List.mem_singleton.1 hq,hfve];rfl) (by rw[List.length_singleton];omega) (by decide) (by omega) ?_
   intro nv' y3 hown3 hX3 hK3 hb3
   refine⟨.inr (hK3.mono fun b _ hb=>by have:=(hownZ.ge hb).1;show _≤_;omega),?_⟩
   simp (disch:=first|omega|assumption|rfl) only[go_sem,s9]
   have hK3s:=hK3.size
   obtain⟨a7,c7,hnv7⟩:=hown3.slice
   have hp3:y3.heap[p]? =some (.cells [fo,v32 r.ttl,vi r.dat.ty,nv,nu,tx,rw'].toArray 35 (0,0)):=(hK3.block p (by omega) (fun h=>by have:=(hownZ.ge h).1;omega)).trans (Ext.at hxy hBZ)
   refine zen (P:=Tryz.prog) (t:=29) (j:=3) (u:=nv') (l:=[fo,v32 r.ttl,vi r.dat.ty,nv,nu,tx,rw']) hp3 (by simp) (by rw[hnv7];rfl) rfl rfl ?_
   intro z hzs hBz hkz
   refine⟨.inl rfl,?_⟩
   simp (disch:=first|omega|assumption|rfl) only[go_sem]
   refine hK _ _ ?_;clear hK hgd;clear K;try clear gd
   simp only[List.set_cons_zero,List.set_cons_succ]at hBz
   have hob:∀b,b<y2.heap.size→zd3 W.heap.size p nv' b→zd3 W.heap.size p nv b:=fun b hb h=>by
    rcases h with h|h
    ·rcases hb3 b h with h|h
     ·exact .inl h
     ·omega
    ·exact .inr h
   have mv:∀{P:World→Prop},Hz (zd3 W.heap.size p nv) Z P→Hz (zd3 W.heap.size p nv') z P:=fun h=>
    ((h.ext hxy).app hK3 (fun b _ hb=> .inl hb) hob).app hkz (fun b _ hb=> .inr (by omega)) (fun b _ hb=>hb)
   refine go (an9 s0 s1 s2 s7 s8 s9 s10 hk2 trivial) ?_
   refine⟨m' - 1,by omega,rfl,k+1,by omega,⟨(vq1 s0),(vq1 s1),(vq1 s2),(vq1 s7),(vq1 s8),(vq1 s9),(vq1 hk2)⟩,Keep.to_ext (hX3 A (hEZ.trans hxy) (by omega)) rfl (fun b hb=>by omega) hkz,nv',nvals++ [fv],hBz,hown3.keep hkz (fun b hb h=>by have:=(hown3.ge hb).1;omega),by simp;omega,fun j h h'=>?_,mv hfoZ⟩
   by_cases hj:j<nvals.length
   ·rw[List.getElem_append_left hj]
    exact mv (hnr j hj h')
   ·have hjk:j=k:=by simp at h;omega
    subst hjk
    rw[List.getElem_append_right (by omega)]
    simp only[hnl,Nat.sub_self,List.getElem_cons_zero,hn]
    have hrz:Row z fv ((zao n).map vs):=by
     refine Row.blocks (w:=y3) (Row.blocks (w:=y2) (hfv.1.ext hy2) fun a n' c hv=>?_) fun a n' c hv=>?_
     ·have h2:=hfv.2 a n' c hv
      exact hK3.block _ (by omega) (fun hh=>by have:=(hownZ.ge hh).2;omega)
     ·have h2:=hfv.2 a n' c hv
      exact hkz.block _ (by omega) (by omega)
    refine row_hz hrz fun a n' c hv=>?_
    have h2:=hfv.2 a n' c hv
    refine⟨by omega,?_⟩
    rintro(h3|h3)
    ·rcases hb3 _ h3 with h3|h3
     ·have:=(hownZ.ge h3).2;omega
     ·omega
    ·omega
  clear s0 s1 s2 s8 s7 c3
  rintro _ σ1 _ Z ⟨rfl,rfl,⟨s0,s1,s2,s7,s8,s9⟩,hEZ,nv,nvals,hBZ,hownZ,hnl,hnr,hfoZ⟩
  have hrec:RecZ (fun b=>some b=sv.ownBlock) Z [fo,v32 r.ttl,vi r.dat.ty,nv,nu,tx,rw'] (zc2 r):=fun X hX=>by
   have hX':Keep (zd3 W.heap.size p nv) Z X:=hX.mono fun b _ hb=> .inr ⟨(hown.ge hb).1,by have:=(hown.ge hb).2;omega⟩
   have hEX:Ext W X:=Keep.to_ext (hEA.trans hEZ) rfl (fun b hb=>(hown.ge hb).1) hX
   refine⟨fo,[vi r.dat.ty,nv,nu,tx,rw'],rfl,hfoZ X hX',⟨nv,nu,tx,rw',rfl,⟨nvals,(hownZ.keep hX fun b hb hs=>?_).row,?_,fun j h h'=>?_⟩,hnu.ext hEX,htx.ext hEX,hrw.ext hEX⟩⟩
   ·have:=(hownZ.ge hb).1;have:=(hown.ge hs).2;omega
   ·show nvals.length=(r.dat.names.map zao).length
    rw[List.length_map];omega
   ·have h2:j<r.dat.names.length:=by simpa [zc2] using h'
    have h3:=hnr j h h2 X hX'
    have h4:(zc2 r).dat.names[j]=zao r.dat.names[j]:=by simp[zc2]
    rw[h4];exact h3
  have q7:=za4 (n:=7) hBZ rfl
  have hEWZ:=hEA.trans hEZ
  have hszZ:=hEZ.size
  refine go (an6 s0 s1 s2 s7 s8 s9) ?_
  refine rq ?_;intro gd K hgd hK
  try simp (disch:=first|omega|assumption|rfl) only[go_sem,s7,s9,q7]
  refine zdS (l:=[fo,v32 r.ttl,vi r.dat.ty,nv,nu,tx,rw']) (a:=zc2 r) (zd9 _ Z) rfl rfl rfl rfl hrec (by decide) ?_
  intro y1 hy1 hys1 hyo
  try simp (disch:=first|omega|assumption|rfl) only[go_sem,s7]
  refine zbk (zd9 _ Z) (((hown.ext hEZ).to fun cs x h=>h.ext hEZ).ext hy1) hyo.rows rfl rfl rfl rfl rfl rfl (by decide) ((vr1 s7)) (vr0) (by simp;omega) (by decide) (by omega) ?_
  intro sv' y2 hown2 hX2 hK2 hb2
  try simp only[go_sem]
  refine hK _ _ ?_;clear hK hgd;clear K;try clear gd
  refine go (an6 s0 s1 s2 s8 s9 hi2) ?_
  refine⟨m - 1,by omega,rfl,i+1,by omega,⟨(vq1 s0),(vq1 s1),(vq1 s2),(vq1 hi2)⟩,hX2 W (hEWZ.trans hy1) (Nat.le_refl _),sv',vr0,?_⟩
  rw[zag hi,hr,List.map_append]
  exact hown2.to fun cs x h=>(h.ext hy1).app hK2 (fun b _ hb=>hb) fun b hb h=>by
   rcases hb2 b h with h|h
   ·exact h
   ·omega
 clear d0
 rintro _ σ _ w4 ⟨rfl,rfl,hE4,⟨s1,s2⟩,sv,s7,hown⟩
 obtain⟨M,hM⟩:∃M,R.map zc2=M:=⟨_,rfl⟩
 rw[hM]at hown
 have hMl:M.length=R.length:=by rw[←hM,List.length_map]
 have hMrows:Rows 7 (RecAt w4) w4 sv M:=hown.rows.to fun cs x h=>h.now
 obtain⟨am,cm,rfl,hcm,hgm⟩:=hMrows.open
 obtain⟨k,hk⟩:∃k,t % M.length=k:=⟨_,rfl⟩
 have hkM:k<M.length:=by rw[←hk];exact Nat.mod_lt _ (by omega)
 have ekm:((t:Nat):Int).tmod ((M.length:Nat):Int)=((k:Nat):Int):=by rw[Int.tmod_eq_emod_of_nonneg (by omega),←hk];omega
 have hnz:¬((M.length:Nat):Int)=0:=by omega
 refine go (an4 s1 s2 s7 ekm) ?_
 have hsg:=hG.len
 obtain⟨B,hB⟩:∃B,w4.heap.size=B:=⟨_,rfl⟩
 have kz:(0:Int)≤(k:Int):=by omega
 have km:(k:Int)≤(M.length:Int):=by omega
 have kc:(k:Int)≤(cm:Int):=by omega
 have m0:(0:Int)<(M.length:Int):=by omega
 obtain⟨c0,g0,hc0⟩:=hgm 0 (by omega)
 rw[Nat.zero_mul,zaH]at g0
 obtain⟨xm,rfl⟩:∃x,am=some x:=by
  cases am with
  |none=>cases g0
  |some x=>exact⟨x,rfl⟩
 have hxmb:xm.block<B:=by
  have h1:=zbK g0 (j:=0) (by rw[hc0.len];decide)
  rw[zaH]at h1
  rw[←hB]
  exact zc4 h1
 have hdr:=hMrows.drop (m:=k) (by omega)
 have htk:=hMrows.take (m:=k) (c2:=cm) (by omega) (by omega)
 obtain⟨r0,hr0⟩:∃r0,M[0]'(by omega)=r0:=⟨_,rfl⟩
 obtain⟨Mt,hMt⟩:∃l,M=r0::l:=by
  have h1:∀(M:List RecL) (h:0<M.length),M=M[0]::M.tail:=fun M h=>by
   cases M with
   |nil=>cases h
   |cons a l=>rfl
  exact⟨M.tail,by rw[←hr0];exact h1 M (by omega)⟩
 rw[hr0]at hc0
 refine zaA (Q:=fun e σ' ds' v'=>e= .normal∧ds'=[]∧Ext w4 v'∧σ' 1=ov∧σ' 7= .slice (some xm) M.length cm∧∃tv,σ' 12=tv∧Rows 7 (RecAt w4) v' tv (M.drop k++M.take k++ [r0])) ?_ ?_
 ·refine W_tree (fun _=>false) (.run [(1,true),(2,true),(3,true),(5,true),(6,true),(7,true),(9,true),(10,true),(11,true)] (.fork 5 [0,12] (fun i=>if i=0 then(.run [] (.fork 4 [4,12] (fun i=>if i=4 then(.run [] (.fork 3 [8,12] (fun i=>if i=8 then(.run [(12,false),(13,false),(14,true)] .fin) else(.run [(8,false),(13,false),(14,true)] .fin)))) else(.run [(4,false),(8,false),(13,false),(14,true)] .fin)))) else(.run [(0,false),(4,false),(8,false),(13,false),(14,true)] .fin)))) (zbR B) mixed (by kernel_rfl) ?_;intro gd K x hgd hx hxe hK;have hx0:=zbc hxe;clear hxe
  have hsx:=hx0.size
  have g0x:=zai hx0 g0
  simp (disch:=first|omega|assumption|rfl) only[go_sem,s7,kz,km,kc,m0,Int.toNat_zero,Nat.zero_mul,zaH,Nat.sub_zero,ite_self,g0x]
  refine⟨zf8 hxmb,?_⟩
  simp only[zdW,zeD];refine⟨?_,?_⟩
  ·simp (disch:=first|omega|assumption|rfl) only[go_sem]
   refine zio (k:=7) (C:=RecAt w4) rfl rfl rfl rfl ?_
   intro z0 e0 y0 o0
   refine⟨.inr e0.keep,?_⟩
   obtain⟨B0,hB0⟩:∃B0,x.heap.size=B0:=⟨_,rfl⟩
   rw[hB0]at o0 y0 ⊢
   have E0:=hx0.trans e0
   simp (disch:=first|omega|assumption|rfl) only[go_sem]
   simp only[zdW,zeD];refine⟨?_,?_⟩
   ·simp (disch:=first|omega|assumption|rfl) only[go_sem]
    refine zbk (zaD w4) o0 (hdr.ext E0) rfl rfl rfl rfl rfl rfl (by decide) (vr0) (vr0) (by simp;omega) (by decide) (by omega) ?_
    intro v1 z1 o1 x1 k1 b1
    refine⟨.inr (k1.mono fun b _ hb=>by have:=(o0.ge hb).1;show _≤_;omega),?_⟩
    have y1:=k1.size
    have E1:=x1 w4 E0 (by omega)
    simp (disch:=first|omega|assumption|rfl) only[go_sem]
    simp only[zdW,zeD];refine⟨?_,?_⟩
    ·simp (disch:=first|omega|assumption|rfl) only[go_sem]
     refine zbk (zaD w4) o1 (htk.ext E1) rfl rfl rfl rfl rfl rfl (by decide) (vr0) (vr0) (by simp;omega) (by decide) (by omega) ?_
     intro v2 z2 o2 x2 k2 b2
     refine⟨.inr (k2.mono fun b _ hb=>by have:=(o1.ge hb).1;show _≤_;omega),?_⟩
     have y2:=k2.size
     have E2:=x2 w4 E1 (by omega)
     simp (disch:=first|omega|assumption|rfl) only[go_sem]
     refine zdS (zaD w4) rfl rfl rfl rfl hc0 (by decide) ?_
     intro z3 e3 y3 o3
     refine⟨.inr e3.keep,?_⟩
     obtain⟨c5,hc5⟩:∃c5,z2.heap.size=c5:=⟨_,rfl⟩
     rw[hc5]at o3 y3 ⊢
     have n3:∀b,some b=v2.ownBlock→¬b=c5:=fun b h e=>by have:=(o2.ge h).2;omega
     have t3:=o2.ext e3
     have E3:=E2.trans e3
     simp (disch:=first|omega|assumption|rfl) only[go_sem]
     refine zbk (zaD w4) t3 o3.rows rfl rfl rfl rfl rfl rfl (by decide) (vr0) (vr0) (by simp;omega) (by decide) (by omega) ?_
     intro v4 z4 o4 x4 k4 b4
     refine⟨.inr (k4.mono fun b _ hb=>by have:=(t3.ge hb).1;show _≤_;omega),?_⟩
     have y4:=k4.size
     have E4:=x4 w4 E3 (by omega)
     simp (disch:=first|omega|assumption|rfl) only[go_sem]
     refine hK _ _ ⟨rfl,rfl,E4,(vq1 s1),(vq1 s7),_,vr0,?_⟩
     have hr:=o4.rows
     rw[List.nil_append]at hr
     exact hr
    ·simp (disch:=first|omega|assumption|rfl) only[go_sem]
     refine zdS (zaD w4) rfl rfl rfl rfl hc0 (by decide) ?_
     intro z5 e5 y5 o5
     refine⟨.inr e5.keep,?_⟩
     obtain⟨c5,hc5⟩:∃c5,z1.heap.size=c5:=⟨_,rfl⟩
     rw[hc5]at o5 y5 ⊢
     have n5:∀b,some b=v1.ownBlock→¬b=c5:=fun b h e=>by have:=(o1.ge h).2;omega
     have t5:=o1.ext e5
     have E5:=E1.trans e5
     simp (disch:=first|omega|assumption|rfl) only[go_sem]
     refine zbk (zaD w4) t5 (htk.ext E5) rfl rfl rfl rfl rfl rfl (by decide) (vr0) (vr0) (by simp;omega) (by decide) (by omega) ?_
     intro v6 z6 o6 x6 k6 b6
     refine⟨.inr (k6.mono fun b _ hb=>by have:=(t5.ge hb).1;show _≤_;omega),?_⟩
     have y6:=k6.size
     have q6:=o5.keep k6 (fun b hb hb2=>n5 b hb2 (by cases hb;rfl))
     have n6:∀b,some b=v6.ownBlock→¬b=c5:=fun b h e=>by
      rcases b6 b h with h|h
      ·exact n5 b h e
      ·omega
     have E6:=x6 w4 E5 (by omega)
     simp (disch:=first|omega|assumption|rfl) only[go_sem]
     refine zbk (zaD w4) o6 q6.rows rfl rfl rfl rfl rfl rfl (by decide) (vr0) (vr0) (by simp;omega) (by decide) (by omega) ?_
     intro v7 z7 o7 x7 k7 b7
     refine⟨.inr (k7.mono fun b _ hb=>by have:=(o6.ge hb).1;show _≤_;omega),?_⟩
     have y7:=k7.size
     have E7:=x7 w4 E6 (by omega)
     simp (disch:=first|omega|assumption|rfl) only[go_sem]
     refine hK _ _ ⟨rfl,rfl,E7,(vq1 s1),(vq1 s7),_,vr0,?_⟩
     have hr:=o7.rows
     rw[List.nil_append]at hr
     exact hr
   ·simp (disch:=first|omega|assumption|rfl) only[go_sem]
    refine zdS (zaD w4) rfl rfl rfl rfl hc0 (by decide) ?_
    intro z8 e8 y8 o8
    refine⟨.inr e8.keep,?_⟩
    obtain⟨c5,hc5⟩:∃c5,z0.heap.size=c5:=⟨_,rfl⟩
    rw[hc5]at o8 y8 ⊢
    have n8:∀b,some b=(Value.slice (some ⟨B0,0,Option.none⟩) 0 0).ownBlock→¬b=c5:=fun b h e=>by have:=(o0.ge h).2;omega
    have t8:=o0.ext e8
    have E8:=E0.trans e8
    simp (disch:=first|omega|assumption|rfl) only[go_sem]
    refine zbk (zaD w4) t8 (hdr.ext E8) rfl rfl rfl rfl rfl rfl (by decide) (vr0) (vr0) (by simp;omega) (by decide) (by omega) ?_
    intro v9 z9 o9 x9 k9 b9
    refine⟨.inr (k9.mono fun b _ hb=>by have:=(t8.ge hb).1;show _≤_;omega),?_⟩
    have y9:=k9.size
    have q9:=o8.keep k9 (fun b hb hb2=>n8 b hb2 (by cases hb;rfl))
    have n9:∀b,some b=v9.ownBlock→¬b=c5:=fun b h e=>by
     rcases b9 b h with h|h
     ·exact n8 b h e
     ·omega
    have E9:=x9 w4 E8 (by omega)
    simp (disch:=first|omega|assumption|rfl) only[go_sem]
    refine zbk (zaD w4) o9 (htk.ext E9) rfl rfl rfl rfl rfl rfl (by decide) (vr0) (vr0) (by simp;omega) (by decide) (by omega) ?_
    intro v10 z10 o10 x10 k10 b10
    refine⟨.inr (k10.mono fun b _ hb=>by have:=(o9.ge hb).1;show _≤_;omega),?_⟩
    have y10:=k10.size
    have q10:=q9.keep k10 (fun b hb hb2=>n9 b hb2 (by cases hb;rfl))
    have n10:∀b,some b=v10.ownBlock→¬b=c5:=fun b h e=>by
     rcases b10 b h with h|h
     ·exact n9 b h e
     ·omega
    have E10:=x10 w4 E9 (by omega)
    simp (disch:=first|omega|assumption|rfl) only[go_sem]
    refine zbk (zaD w4) o10 q10.rows rfl rfl rfl rfl rfl rfl (by decide) (vr0) (vr0) (by simp;omega) (by decide) (by omega) ?_
    intro v11 z11 o11 x11 k11 b11
    refine⟨.inr (k11.mono fun b _ hb=>by have:=(o10.ge hb).1;show _≤_;omega),?_⟩
    have y11:=k11.size
    have E11:=x11 w4 E10 (by omega)
    simp (disch:=first|omega|assumption|rfl) only[go_sem]
    refine hK _ _ ⟨rfl,rfl,E11,(vq1 s1),(vq1 s7),_,vr0,?_⟩
    have hr:=o11.rows
    rw[List.nil_append]at hr
    exact hr
  ·simp (disch:=first|omega|assumption|rfl) only[go_sem]
   refine zdS (zaD w4) rfl rfl rfl rfl hc0 (by decide) ?_
   intro z12 e12 y12 o12
   refine⟨.inr e12.keep,?_⟩
   obtain⟨c5,hc5⟩:∃c5,x.heap.size=c5:=⟨_,rfl⟩
   rw[hc5]at o12 y12 ⊢
   have E12:=hx0.trans e12
   simp (disch:=first|omega|assumption|rfl) only[go_sem]
   refine zio (k:=7) (C:=RecAt w4) rfl rfl rfl rfl ?_
   intro z13 e13 y13 o13
   refine⟨.inr e13.keep,?_⟩
   obtain⟨B0,hB0⟩:∃B0,z12.heap.size=B0:=⟨_,rfl⟩
   rw[hB0]at o13 y13 ⊢
   have n13:∀b,some b=(Value.slice (some ⟨B0,0,Option.none⟩) 0 0).ownBlock→¬b=c5:=fun b h e=>by have:=(o13.ge h).1;omega
   have q13:=o12.ext e13
   have E13:=E12.trans e13
   simp (disch:=first|omega|assumption|rfl) only[go_sem]
   refine zbk (zaD w4) o13 (hdr.ext E13) rfl rfl rfl rfl rfl rfl (by decide) (vr0) (vr0) (by simp;omega) (by decide) (by omega) ?_
   intro v14 z14 o14 x14 k14 b14
   refine⟨.inr (k14.mono fun b _ hb=>by have:=(o13.ge hb).1;show _≤_;omega),?_⟩
   have y14:=k14.size
   have q14:=q13.keep k14 (fun b hb hb2=>n13 b hb2 (by cases hb;rfl))
   have n14:∀b,some b=v14.ownBlock→¬b=c5:=fun b h e=>by
    rcases b14 b h with h|h
    ·exact n13 b h e
    ·omega
   have E14:=x14 w4 E13 (by omega)
   simp (disch:=first|omega|assumption|rfl) only[go_sem]
   refine zbk (zaD w4) o14 (htk.ext E14) rfl rfl rfl rfl rfl rfl (by decide) (vr0) (vr0) (by simp;omega) (by decide) (by omega) ?_
   intro v15 z15 o15 x15 k15 b15
   refine⟨.inr (k15.mono fun b _ hb=>by have:=(o14.ge hb).1;show _≤_;omega),?_⟩
   have y15:=k15.size
   have q15:=q14.keep k15 (fun b hb hb2=>n14 b hb2 (by cases hb;rfl))
   have n15:∀b,some b=v15.ownBlock→¬b=c5:=fun b h e=>by
    rcases b15 b h with h|h
    ·exact n14 b h e
    ·omega
   have E15:=x15 w4 E14 (by omega)
   simp (disch:=first|omega|assumption|rfl) only[go_sem]
   refine zbk (zaD w4) o15 q15.rows rfl rfl rfl rfl rfl rfl (by decide) (vr0) (vr0) (by simp;omega) (by decide) (by omega) ?_
   intro v16 z16 o16 x16 k16 b16
   refine⟨.inr (k16.mono fun b _ hb=>by have:=(o15.ge hb).1;show _≤_;omega),?_⟩
   have y16:=k16.size
   have E16:=x16 w4 E15 (by omega)
   simp (disch:=first|omega|assumption|rfl) only[go_sem]
   refine hK _ _ ⟨rfl,rfl,E16,(vq1 s1),(vq1 s7),_,vr0,?_⟩
   have hr:=o16.rows
   rw[List.nil_append]at hr
   exact hr
 clear s7
 rintro _ σ5 _ w5 ⟨rfl,rfl,hE5,g1,g7,tv,g12,hT⟩
 have hgt:=good_T hG hnum
 have hMT:∀r∈M,RecT r∧zcw r:=fun r hr=>by
  rw[←hM]at hr
  obtain⟨q,hq,rfl⟩:=List.mem_map.1 hr
  exact hgt q hq
 have hMF:∀r∈M,zhb r:=fun r hr=>by
  rw[←hM]at hr
  obtain⟨q,hq,rfl⟩:=List.mem_map.1 hr
  exact zgN q
 have hr0M:r0∈M:=hr0▸List.getElem_mem _
 have hTT:∀r∈M.drop k++M.take k++ [r0],RecT r∧zcw r:=fun r hr=>by
  rcases List.mem_append.1 hr with hr|hr
  ·rcases List.mem_append.1 hr with hr|hr
   ·exact hMT r (List.mem_of_mem_drop hr)
   ·exact hMT r (List.mem_of_mem_take hr)
  ·rw[List.mem_singleton.1 hr];exact hMT r0 hr0M
 have hTl:(M.drop k++M.take k++ [r0]).length≤100:=by simp;omega
 have hct:=zg1 hMt hMF k
 have hfile:zgS (M.drop k++M.take k++ [r0]) o=zgS M o:=by unfold zgS;rw[hct]
 obtain⟨T,hTe⟩:∃T,M.drop k++M.take k++ [r0]=T:=⟨_,rfl⟩
 rw[hTe]at hT hTT hTl hfile
 have hE45:=hE4.trans hE5
 refine go (an3 g1 g7 g12) ?_
 refine rc (an3 g1 g7 g12) (zfV (hW.ext hE45) (hT.to fun cs a h=>h.ext hE5) (fun r hr=>(hTT r hr).1) (fun r hr=>(hTT r hr).2) hTl (ho.ext hE45) hoT) ?_
 rintro _ w6 ⟨rfl,hE6⟩
 have hE46:=hE45.trans hE6
 refine rd (an3 g1 g7 g12) (zfV (hW.ext hE46) (((hMrows.ext hE5).ext hE6).to fun cs a h=>h.ext (hE5.trans hE6)) (fun r hr=>(hMT r hr).1) (fun r hr=>(hMT r hr).2) (by omega) (ho.ext hE46) hoT) ?_
 rintro _ w7 ⟨rfl,hE7⟩
 refine rgo (decide_eq_true hfile) ?_
 refine rt0 Tryz.ntmps3 ?_
 exact⟨rfl,hE46.trans hE7⟩
end Go.Proofs.YtanmnkbccfcagaaGreatDoor
