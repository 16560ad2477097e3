/-
  Texts of a proof, joined: NE, QL, QM, QN, YT1, KC3, GW, HX0, ZT1.
  Conditions: none.
-/
import Derived.Test.YtihbdhjibplldaaGreatDoorQLT11
import Derived.Test.YtihbdhjibplldaaGreatDoorQLT02
import Derived.Test.YtihbdhjibplldaaGreatDoorRows
import Derived.JoinedOf
import Derived.Handed
import Derived.Test.YtihbdhjibplldaaGreatDoorQLT03
import Derived.Stop.LaidErr
import Derived.Shelf.Vars
import Derived.MakeChecks
import Derived.Test.YtihbdhjibplldaaGreatDoorQLT04
import Derived.Test.YtihbdhjibplldaaGreatDoorCards
import Derived.Test.YtihbdhjibplldaaGreatDoorTie
import Derived.Lay
import Derived.SevenTiedAt
import Derived.ChangeMaps5
import Derived.Test.YtihbdhjibplldaaGreatDoorQLT07
set_option linter.unusedVariables false
set_option linter.unusedSimpArgs false
set_option linter.defProp false
set_option linter.unnecessarySimpa false
set_option maxHeartbeats 8000000
namespace Go.Proofs.YtihbdhjibplldaaGreatDoor
open Go
set_option maxRecDepth 10000
theorem zlp{w:World}{av bv:Value}{n:Nm}(ha:Row w av (n.map vs))(hb:Row w bv (n.map vs))(hl:n.length≤1000000000):Fn Tryz.prog 35 #[av,bv] w (fun v w'=>v= .bool true∧Ext w w'):=by
 obtain⟨a,ca,rfl,hga⟩:=zbw ha
 obtain⟨b,cb,rfl,hgb⟩:=zbw hb
 refine enter Tryz.func35 Tryz.ntmps35 rfl rfl ?_
 have d0:decide ((n.length:Int)=(n.length:Int))=true:=decide_eq_true rfl
 refine go d0 ?_
 refine za3 n.length (fun i σ v=>(σ 0= .slice a n.length ca∧σ 1= .slice b n.length cb∧σ 5=vi i)∧Ext w v) ?_ ?_ ?_
 ·exact⟨⟨vr0,vr0,vr0⟩,Keep.refl _ _⟩
 ·rintro i σ v hi ⟨r1,r2,r3,r4⟩ ⟨⟨s0,s1,s5⟩,hE⟩
  obtain⟨xa,rfl,g0⟩:=hga i hi
  obtain⟨xb,rfl,g1⟩:=hgb i hi
  obtain⟨t,ht⟩:∃t,n[i]=t:=⟨_,rfl⟩
  rw[ht]at g0 g1
  refine go (an4 s0 s1 s5 r1) ?_
  refine zas (Q:=fun e' σ' ds' v'=>e'= .normal∧ds'=[]∧(σ' 0= .slice (some xa) n.length ca∧σ' 1= .slice (some xb) n.length cb∧σ' 5=vi i)∧Ext v v'∧σ' 25= .bool false) ?_ ?_
  ·refine zaR (fun _=>false) [(0,true),(1,true),(2,true),(3,true),(4,true),(5,true),(6,true),(7,true),(8,true)] NoS mixed (by kernel_rfl) ?_;intro gd K x hgd hx hxe hK;have hx0:=zaQ hxe;clear hxe
   have u0:=zab (hE.trans hx0) g0
   have u1:=zab (hE.trans hx0) g1
   have ht:decide (t=t)=true:=decide_eq_true rfl
   simp (disch:=first|omega|assumption|rfl) only[go_sem,s0,s1,s5,r2,r3,u0,u1,ht,Nat.mul_one,Int.toNat_natCast,Bool.not_true]
   refine hK _ _ ?_;clear hK hgd;clear K;try clear gd
   exact⟨rfl,rfl,⟨(vq1 s0),(vq1 s1),(vq1 s5)⟩,hx0,vr0⟩
  clear s0 s1 s5
  rintro _ σ1 _ v1 ⟨rfl,rfl,⟨s0,s1,s5⟩,hE1,s25⟩
  refine go (an5 s0 s1 s5 s25 r4) ?_
  exact⟨rfl,⟨(vq1 s0),(vq1 s1),(vq1 r4)⟩,hE.trans hE1⟩
 ·rintro σ v r ⟨⟨s0,s1,s5⟩,hE⟩
  refine go (an4 s0 s1 s5 r) ?_
  refine rt0 Tryz.ntmps35 ?_
  exact⟨rfl,hE⟩
theorem zjG{w:World}{v:Value}{l:List UInt8}(h:Row w v (l.map zao)):∃a c,v= .slice a l.length c∧∀i (hi:i<l.length),zad w (adr a i)=some (zao l[i]):=by
 obtain⟨a,c,rfl,_,hg⟩:=h
 refine⟨a,c,by rw[List.length_map],fun i hi=>?_⟩
 have g:=hg i (by rw[List.length_map];exact hi)
 rwa [List.getElem_map]at g
theorem IsD_ok{w:World}{ca cb:List Value}{d:DatL}(ha:DatAt w ca d)(hb:DatAt w cb d)(hT:DatT d):Fn Tryz.prog 36 #[.agg ca.toArray,.agg cb.toArray] w (fun v w'=>v= .bool true∧Ext w w'):=by
 have hS:=hT.s
 have hnl:=hT.nn
 have hul:=hS.nu
 have htl:=hS.nt
 have hrl:=hS.nr
 obtain⟨nm,nu,tx,rw',rfl,⟨vals,⟨an,cn,rfl,hcn,hgn⟩,hvl,hvr⟩,hnu,htx,hrw⟩:=ha.ex
 obtain⟨nm2,nu2,tx2,rw2,rfl,⟨vals2,⟨an2,cn2,rfl,hcn2,hgn2⟩,hvl2,hvr2⟩,hnu2,htx2,hrw2⟩:=hb.ex
 obtain⟨au,cu,hau,hcu,hgu⟩:=id hnu
 obtain⟨au2,cu2,hau2,hcu2,hgu2⟩:=id hnu2
 obtain⟨at1,ct,hat,hgt⟩:=zbw htx
 obtain⟨at2,ct2,hat2,hgt2⟩:=zbw htx2
 obtain⟨ar,cr,har,hgr⟩:=zjG hrw
 obtain⟨ar2,cr2,har2,hgr2⟩:=zjG hrw2
 rw[List.length_map]at hau hau2 hcu hcu2
 subst hau hat har hau2 hat2 har2
 rw[hvl]at hcn ⊢
 rw[hvl2]at hcn2 ⊢
 refine enter Tryz.func36 Tryz.ntmps36 rfl rfl ?_
 refine go trivial ?_
 refine zdd ?_
 intro w1 hE1 hs1 hA hB
 simp only[zaB]
 obtain⟨p,hp⟩:∃p,w.heap.size=p:=⟨_,rfl⟩
 rw[hp]at hA hB ⊢
 have p0:zad w1 (some ⟨p,0,Option.none⟩)=some (vi d.ty):=zaa hA rfl
 have p1:zad w1 (some ⟨p,1,Option.none⟩)=some (.slice an d.names.length cn):=zaa hA rfl
 have p2:zad w1 (some ⟨p,2,Option.none⟩)=some (.slice au d.nums.length cu):=zaa hA rfl
 have p3:zad w1 (some ⟨p,3,Option.none⟩)=some (.slice at1 d.texts.length ct):=zaa hA rfl
 have p4:zad w1 (some ⟨p,4,Option.none⟩)=some (.slice ar d.raw.length cr):=zaa hA rfl
 have q0:zad w1 (some ⟨p+1,0,Option.none⟩)=some (vi d.ty):=zaa hB rfl
 have q1:zad w1 (some ⟨p+1,1,Option.none⟩)=some (.slice an2 d.names.length cn2):=zaa hB rfl
 have q2:zad w1 (some ⟨p+1,2,Option.none⟩)=some (.slice au2 d.nums.length cu2):=zaa hB rfl
 have q3:zad w1 (some ⟨p+1,3,Option.none⟩)=some (.slice at2 d.texts.length ct2):=zaa hB rfl
 have q4:zad w1 (some ⟨p+1,4,Option.none⟩)=some (.slice ar2 d.raw.length cr2):=zaa hB rfl
 have dt:decide (d.ty=d.ty)=true:=decide_eq_true rfl
 have dn:decide ((d.names.length:Int)=(d.names.length:Int))=true:=decide_eq_true rfl
 have du:decide ((d.nums.length:Int)=(d.nums.length:Int))=true:=decide_eq_true rfl
 have dx:decide ((d.texts.length:Int)=(d.texts.length:Int))=true:=decide_eq_true rfl
 have dr:decide (d.raw=d.raw)=true:=decide_eq_true rfl
 refine zas (Q:=fun e' σ' ds' v'=>e'= .normal∧ds'=[]∧v'=w1∧(σ' 2= .pointer (some ⟨p,0,Option.none⟩)∧σ' 3= .pointer (some ⟨p+1,0,Option.none⟩))∧σ' 47= .bool false) ?_ ?_
 ·refine go trivial ?_
  refine rq ?_;intro gd K hgd hK
  have hg5:∀n σ b,zax gd n σ (some (5,b))=zap (ev n σ (.tmp 12)) b:=(fun n σ b=>by rw[zag,show gd 5=some 12 from(by rw[hgd];rfl)];rfl);have hg14:∀n σ b,zax gd n σ (some (14,b))=zap (ev n σ (.tmp 21)) b:=(fun n σ b=>by rw[zag,show gd 14=some 21 from(by rw[hgd];rfl)];rfl);have hg23:∀n σ b,zax gd n σ (some (23,b))=zap (ev n σ (.tmp 30)) b:=(fun n σ b=>by rw[zag,show gd 23=some 30 from(by rw[hgd];rfl)];rfl);have hg32:∀n σ b,zax gd n σ (some (32,b))=zap (ev n σ (.tmp 39)) b:=(fun n σ b=>by rw[zag,show gd 32=some 39 from(by rw[hgd];rfl)];rfl)
  simp only[List.append_eq,List.cons_append,List.nil_append]
  try simp (disch:=first|omega|assumption|rfl) only[go_sem,p0,p1,p2,p3,p4,q0,q1,q2,q3,q4,dt,dn,du,dx,Bool.not_true,Nat.add_zero,Nat.add_right_cancel_iff,↓hg5,↓hg14,↓hg23,↓hg32]
  refine zbH (l:=d.raw) (a:=ar) (c:=cr) rfl rfl rfl (vr0) (fun j hj=>zab hE1 (hgr j hj)) ?_
  try simp (disch:=first|omega|assumption|rfl) only[go_sem,p0,p1,p2,p3,p4,q0,q1,q2,q3,q4,dt,dn,du,dx,Bool.not_true,Nat.add_zero,↓hg5,↓hg14,↓hg23,↓hg32]
  refine zbH (l:=d.raw) (a:=ar2) (c:=cr2) rfl rfl rfl (vr0) (fun j hj=>zab hE1 (hgr2 j hj)) ?_
  try simp (disch:=first|omega|assumption|rfl) only[go_sem,dr,Bool.not_true,↓hg5,↓hg14,↓hg23,↓hg32]
  refine hK _ _ ?_;clear hK hgd;clear K;try clear gd
  exact⟨rfl,rfl,rfl,⟨vr0,vr0⟩,vr0⟩
 rintro _ σ1 _ v1 ⟨rfl,rfl,rfl,⟨s2,s3⟩,s47⟩
 refine go (an3 s2 s3 s47) ?_
 refine za3 d.names.length (fun i σ v=>(σ 2= .pointer (some ⟨p,0,Option.none⟩)∧σ 3= .pointer (some ⟨p+1,0,Option.none⟩)∧σ 5=vi i)∧Ext v1 v) ?_ ?_ ?_
 ·exact⟨⟨(vr1 s2),(vr1 s3),vr0⟩,Keep.refl _ _⟩
 ·clear s2 s3 s47
  rintro i σ v hi ⟨r1,r2,r3,r4⟩ ⟨⟨s2,s3,s5⟩,hE⟩
  have hEv:=hE1.trans hE
  have g0:=hgn i (by omega)
  have g1:=hgn2 i (by omega)
  obtain⟨xa,rfl⟩:=Option.isSome_iff_exists.1 (zaj g0)
  obtain⟨xb,rfl⟩:=Option.isSome_iff_exists.1 (zaj g1)
  have h0:=hvr i (by omega) hi
  have h1:=hvr2 i (by omega) hi
  obtain⟨nv,hnv⟩:∃v,vals[i]'(by omega)=v:=⟨_,rfl⟩
  obtain⟨nv2,hnv2⟩:∃v,vals2[i]'(by omega)=v:=⟨_,rfl⟩
  obtain⟨n,hn⟩:∃n,d.names[i]=n:=⟨_,rfl⟩
  rw[hnv]at g0 h0
  rw[hnv2]at g1 h1
  rw[hn]at h0 h1
  have hnS:=hS.names n (hn▸List.getElem_mem hi)
  have c1:=zab hE p1
  have e1:=zab hE q1
  refine go (an6 s2 s3 s5 c1 r1 (Nat.zero_add 1)) ?_
  refine zas (Q:=fun e' σ' ds' v'=>e'= .normal∧ds'=[]∧(σ' 2= .pointer (some ⟨p,0,Option.none⟩)∧σ' 3= .pointer (some ⟨p+1,0,Option.none⟩)∧σ' 5=vi i)∧Ext v v'∧σ' 66= .bool false) ?_ ?_
  ·refine zaR (fun _=>false) [(0,true),(1,true),(2,true),(3,true),(4,true),(5,true),(6,true),(7,true),(8,true),(9,true),(10,false),(11,true)] NoS mixed (by kernel_rfl) ?_;intro gd K x hgd hx hxe hK;have hx0:=zaQ hxe;clear hxe
   have u0:=zab (hEv.trans hx0) g0
   have u1:=zab (hEv.trans hx0) g1
   have c1x:=zab hx0 c1
   have e1x:=zab hx0 e1
   simp (disch:=first|omega|assumption|rfl) only[go_sem,s2,s3,s5,r2,r3,u0,u1,c1x,e1x,Nat.zero_add,Nat.mul_one,Int.toNat_natCast]
   refine Fn.mono (zlp (h0.ext (hEv.trans hx0)) (h1.ext (hEv.trans hx0)) (by omega)) ?_
   rintro _ y1 ⟨rfl,hy1⟩
   refine⟨.inr hy1.keep,?_⟩
   simp (disch:=first|omega|assumption|rfl) only[go_sem,Bool.not_true]
   refine hK _ _ ?_;clear hK hgd;clear K;try clear gd
   exact⟨rfl,rfl,⟨(vq1 s2),(vq1 s3),(vq1 s5)⟩,hx0.trans hy1,vr0⟩
  clear s2 s3 s5
  rintro _ σ2 _ v2 ⟨rfl,rfl,⟨s2,s3,s5⟩,hE2,s66⟩
  refine go (an5 s2 s3 s5 s66 r4) ?_
  exact⟨rfl,⟨(vq1 s2),(vq1 s3),(vq1 r4)⟩,hE.trans hE2⟩
 clear s2 s3 s47
 rintro σ v r ⟨⟨s2,s3,s5⟩,hE⟩
 have c1:=zab hE p1
 refine go (an6 s2 s3 s5 c1 r (Nat.zero_add 1)) ?_
 refine za3 d.nums.length (fun i σ v'=>(σ 2= .pointer (some ⟨p,0,Option.none⟩)∧σ 3= .pointer (some ⟨p+1,0,Option.none⟩)∧σ 6=vi i)∧Ext v v') ?_ ?_ ?_
 ·exact⟨⟨(vr1 s2),(vr1 s3),vr0⟩,Keep.refl _ _⟩
 ·clear s2 s3 s5
  rintro i σ z hi ⟨r1,r2,r3,r4⟩ ⟨⟨s2,s3,s5⟩,hEz⟩
  have hEv:=(hE1.trans hE).trans hEz
  have g0:=hgu i (by rw[List.length_map];omega)
  have g1:=hgu2 i (by rw[List.length_map];omega)
  rw[List.getElem_map]at g0 g1
  obtain⟨xa,rfl⟩:=Option.isSome_iff_exists.1 (zaj g0)
  obtain⟨xb,rfl⟩:=Option.isSome_iff_exists.1 (zaj g1)
  obtain⟨n,hn⟩:∃n,d.nums[i]=n:=⟨_,rfl⟩
  rw[hn]at g0 g1
  have c1:=zab (hE.trans hEz) p2
  have e1:=zab (hE.trans hEz) q2
  refine go (an6 s2 s3 s5 c1 r1 (Nat.zero_add 2)) ?_
  refine zas (Q:=fun e' σ' ds' v'=>e'= .normal∧ds'=[]∧(σ' 2= .pointer (some ⟨p,0,Option.none⟩)∧σ' 3= .pointer (some ⟨p+1,0,Option.none⟩)∧σ' 6=vi i)∧Ext z v'∧σ' 84= .bool false) ?_ ?_
  ·refine zaR (fun _=>false) [(0,true),(1,true),(2,true),(3,true),(4,true),(5,true),(6,true),(7,true),(8,true),(9,true),(10,true)] NoS mixed (by kernel_rfl) ?_;intro gd K x hgd hx hxe hK;have hx0:=zaQ hxe;clear hxe
   have u0:=zab (hEv.trans hx0) g0
   have u1:=zab (hEv.trans hx0) g1
   have c1x:=zab hx0 c1
   have e1x:=zab hx0 e1
   have he:decide (n=n)=true:=decide_eq_true rfl
   simp (disch:=first|omega|assumption|rfl) only[go_sem,s2,s3,s5,r2,r3,u0,u1,c1x,e1x,he,Nat.zero_add,Nat.mul_one,Int.toNat_natCast,Bool.not_true]
   refine hK _ _ ?_;clear hK hgd;clear K;try clear gd
   exact⟨rfl,rfl,⟨(vq1 s2),(vq1 s3),(vq1 s5)⟩,hx0,vr0⟩
  clear s2 s3 s5
  rintro _ σ2 _ v2 ⟨rfl,rfl,⟨s2,s3,s5⟩,hE2,s66⟩
  refine go (an5 s2 s3 s5 s66 r4) ?_
  exact⟨rfl,⟨(vq1 s2),(vq1 s3),(vq1 r4)⟩,hEz.trans hE2⟩
 clear s2 s3 s5 r c1
 rintro σ z r ⟨⟨s2,s3,s5⟩,hEz⟩
 have hEv:=(hE1.trans hE).trans hEz
 have c1:=zab (hE.trans hEz) p2
 have c3:=zab (hE.trans hEz) p3
 have e3:=zab (hE.trans hEz) q3
 refine go (an6 s2 s3 s5 c1 r (Nat.zero_add 2)) ?_
 refine rc (an5 s2 s3 c3 e3 (Nat.zero_add 3)) (zlp (htx.ext hEv) (htx2.ext hEv) (by omega)) ?_
 rintro _ y ⟨rfl,hy⟩
 refine rgo trivial ?_
 refine rt0 Tryz.ntmps36 ?_
 exact⟨rfl,hEv.trans hy⟩
theorem Is5E_ok(w:World){av bv:Value}{R:List RecL}(ha:Rows 7 (RecAt w) w av R)(hb:Rows 7 (RecAt w) w bv R)(ko:∀r∈R,r.owner.length≤1000000000∧DatT r.dat)(hl:R.length≤1000000000):
  Fn Tryz.prog 15 #[av,bv] w (fun v w'=>v= .bool true∧Ext w w'):=by
 obtain⟨a1,c1,rfl,_,h1⟩:=ha.open
 obtain⟨a2,c2,rfl,_,h2⟩:=hb.open
 refine enter Tryz.func15 Tryz.ntmps15 rfl rfl ?_
 refine go (show decide ((R.length:Int)=(R.length:Int))=true from decide_eq_true rfl) ?_
 refine za3 R.length (fun i σ A=>(σ 5=vi i∧σ 0= .slice a1 R.length c1∧σ 1= .slice a2 R.length c2)∧Ext w A) ?_ ?_ ?_
 ·exact⟨⟨vr0,vr0,vr0⟩,Keep.refl _ _⟩
 ·rintro i σ A hi r ⟨⟨s5,s0,s1⟩,hEA⟩
  have hi0:(0:Int)≤(i:Int):=by omega
  have hi1:(i:Int)<(R.length:Int):=by omega
  obtain⟨ca,hca,hRa⟩:=h1 i hi
  obtain⟨cb,hcb,hRb⟩:=h2 i hi
  obtain⟨ko1,ko2⟩:=ko _ (List.getElem_mem hi)
  obtain⟨ra,hra⟩:∃r,R[i]=r:=⟨_,rfl⟩
  rw[hra]at hRa hRb ko1 ko2
  obtain⟨oa,da,rfl,o1,e1⟩:=hRa.ex
  obtain⟨ob,db,rfl,o2,e2⟩:=hRb.ex
  have e1':=e1
  have e2':=e2
  obtain⟨na1,na2,na3,na4,rfl,_⟩:=e1.ex
  obtain⟨nb1,nb2,nb3,nb4,rfl,_⟩:=e2.ex
  obtain⟨x1,rfl⟩:=Option.isSome_iff_exists.1 (zaA hca)
  obtain⟨x2,rfl⟩:=Option.isSome_iff_exists.1 (zaA hcb)
  obtain⟨y1,hy1⟩:∃y,adr (some x1) (i*7)=some y:=⟨_,rfl⟩
  obtain⟨y2,hy2⟩:∃y,adr (some x2) (i*7)=some y:=⟨_,rfl⟩
  rw[hy1]at hca
  rw[hy2]at hcb
  obtain⟨u1,hu1⟩:∃y,adr (some y1) 1=some y:=⟨_,rfl⟩
  obtain⟨u2,hu2⟩:∃y,adr (some y2) 1=some y:=⟨_,rfl⟩
  obtain⟨z1,hz1⟩:∃y,adr (some y1) 2=some y:=⟨_,rfl⟩
  obtain⟨z2,hz2⟩:∃y,adr (some y2) 2=some y:=⟨_,rfl⟩
  refine go (an4 r s5 s0 hi1) ?_
  repeat refine c_r ?_
  refine zaR (fun _=>false) [(0,true),(1,true),(2,true),(3,true),(4,true),(5,true),(6,true),(7,true),(8,true),(9,true),(10,false),(11,true),(12,true),(13,true),(14,true),(15,true),(16,true),(17,true),(18,true),(19,true),(20,true),(21,true),(22,true),(23,true),(24,true),(25,true),(26,true),(27,true),(28,true),(29,true),(30,true),(31,true),(32,true),(33,true),(34,true),(35,true),(36,false),(37,true),(38,true)] NoS mixed (by kernel_rfl) ?_;intro gd K x hgd hx hxe hK;clear hxe
  have hg12:∀n σ b,zax gd n σ (some (12,b))=zap (ev n σ (.tmp 29)) b:=(fun n σ b=>by rw[zag,show gd 12=some 29 from(by rw[hgd];rfl)];rfl);have hg25:∀n σ b,zax gd n σ (some (25,b))=zap (ev n σ (.tmp 42)) b:=(fun n σ b=>by rw[zag,show gd 25=some 42 from(by rw[hgd];rfl)];rfl)
  have hW:=hEA.trans hx
  have f0:zad x (adr (some y1) 0)=some oa:=zbx (zah hW hca) rfl
  have f1:zad x (adr (some y1) 1)=some (v32 ra.ttl):=zbx (zah hW hca) rfl
  have f2:zar x (adr (some y1) 2) 5=some [vi ra.dat.ty,na1,na2,na3,na4]:=zbf (m:=2) (k:=5) (zah hW hca)
  have g0:zad x (adr (some y2) 0)=some ob:=zbx (zah hW hcb) rfl
  have g1:zad x (adr (some y2) 1)=some (v32 ra.ttl):=zbx (zah hW hcb) rfl
  have g2:zar x (adr (some y2) 2) 5=some [vi ra.dat.ty,nb1,nb2,nb3,nb4]:=zbf (m:=2) (k:=5) (zah hW hcb)
  rw[zan]at f0 g0
  rw[hu1]at f1
  rw[hu2]at g1
  rw[hz1]at f2
  rw[hz2]at g2
  simp (disch:=first|omega|assumption|rfl) only[go_sem,s5,s0,s1,hi0,hi1,hy1,hy2,hu1,hu2,hz1,hz2,zan,f0,f1,f2,g0,g1,g2]
  refine Fn.mono (zlp (o1.ext hW) (o2.ext hW) ko1) ?_
  rintro _ y ⟨rfl,hy⟩
  refine⟨.inr hy,?_⟩
  have f1y:=zab hy f1
  have f2y:=zah hy f2
  have g1y:=zab hy g1
  have g2y:=zah hy g2
  have htt:decide (ra.ttl=ra.ttl)=true:=decide_eq_true rfl
  simp (disch:=first|omega|assumption|rfl) only[go_sem,Bool.not_true,ze7,s5,s0,s1,hi0,hi1,hy1,hy2,hu1,hu2,f1y,g1y,htt,hz1,hz2,f2y,g2y,↓hg12,↓hg25]
  refine Fn.mono (IsD_ok (e1'.ext (hW.trans hy)) (e2'.ext (hW.trans hy)) ko2) ?_
  rintro _ z ⟨rfl,hz⟩
  refine⟨.inr hz,?_⟩
  simp (disch:=first|omega|assumption|rfl) only[go_sem,ze7,↓hg12,↓hg25]
  refine hK _ _ ?_;clear hK hgd;clear K;try clear gd
  have hWz:=(hW.trans hy).trans hz
  repeat refine c_r ?_
  refine wf Bool.not_true ?_
  refine go (an4 s5 s0 s1 r) ?_
  exact⟨rfl,⟨(vq1 r),(vq1 s0),(vq1 s1)⟩,hWz⟩
 ·rintro σ A r ⟨⟨s5,s0,s1⟩,hEA⟩
  refine go (an4 r s5 s0 s1) ?_
  refine rt0 Tryz.ntmps15 ?_
  exact⟨rfl,hEA⟩
def ze5(r:RecL):Lab×List (Lab×Bool):=(recT r,zfy r)
theorem bare_hd{p:Lab}(h:BareW p)(h0:p≠ []):zcM p=false:=by
 cases h with
 |nil=>exact absurd rfl h0
 |pair d r _=>rfl
 |one c r h1 h2 _=>
  have h32:¬c=32:=fun e=>h1 (by rw[e];decide)
  have h9:¬c=9:=fun e=>h1 (by rw[e];decide)
  simp[zcM,h32,h9]
theorem zk0{p s:Lab}(h0:p≠ []):zcM (p++s)=zcM p:=by
 cases p with
 |nil=>exact absurd rfl h0
 |cons c r=>rfl
theorem zjJ(r:RecL):zcM (recT r)=false:=by
 have tk:=zcZ r.owner
 have hne:=tk.t.1
 have e:recT r=zaD r.owner++([32]++numT r.ttl++ [32,73,78,32]++tyT r.dat.ty++ [32]++za0 hexU r.dat):=by rw[zhe];simp only[List.append_assoc]
 rw[e,zk0 hne]
 exact bare_hd tk.b hne
theorem zhU{r:RecL}(h:RecG r):(recT r).length≤99000:=by
 obtain⟨⟨t1,t2⟩,_,_,_,_,_⟩:=za6 h.chk
 obtain⟨_,_,_,_,p5,_⟩:=zew t1 t2
 have hdl:=zfZ h.chk h.dat h.num
 have hnt:=zc0 h.own
 have hnl:=zcq (n:=r.ttl) (by have:=h.ttl;omega)
 rw[zhe]
 simp only[List.length_append,List.length_cons,List.length_nil]
 omega
theorem zhT{r:RecL}(h:RecG r):Toks (ze5 r).1 (ze5 r).2∧ze3 (ze5 r).1∧(ze5 r).1.length≤100000:=
 ⟨(zhS h).1,prn_line (zhS h).2,Nat.le_trans (zhU h) (by decide)⟩
def zch(st:LdS)(n:Nat):List RecL→LdS
 | []=>st
 |r::R=>zch {st with line:=(n:Int),owner:=some r.owner,last:=some r.ttl,out:=st.out++ [r]} (n+1) R
theorem zfo:∀(R:List RecL) (st:LdS) (n:Nat),(zch st n R).out=st.out++R∧(zch st n R).reads=st.reads∧(zch st n R).origin=st.origin∧(zch st n R).many=st.many∧(zch st n R).path=st.path∧(zch st n R).ttl=st.ttl
 | [],st,n=>⟨by simp[zch],rfl,rfl,rfl,rfl,rfl⟩
 |r::R,st,n=>by
  obtain⟨h1,h2,h3,h4,h5,h6⟩:=zfo R {st with line:=(n:Int),owner:=some r.owner,last:=some r.ttl,out:=st.out++ [r]} (n+1)
  unfold zch
  exact⟨by rw[h1];simp,h2,h3,h4,h5,h6⟩
theorem zgK{fl:List (Lab×Lab)}{inc:LdS→Lab→Option FltL→LdS→Prop}{es:List EntL}{out:Option FltL}{st2:LdS}:∀(R:List RecL) (st:LdS) (n:Nat),(∀r∈R,RecG r)→st.out.length+R.length≤4096→st.reads.length≤1000→EntsIs fl inc (zch st n R) es out st2→EntsIs fl inc st (entF n (R.map ze5)++es) out st2
 | [],st,n,_,_,_,h=>h
 |r::R,st,n,hG,hl,hr,h=>by
  have hne:¬zfy r=[]:=by unfold zfy;simp
  have e:entF n ((r::R).map ze5)++es=⟨(n:Int),false,zfy r⟩::(entF (n+1) (R.map ze5)++es):=by
   rw[List.map_cons,entF]
   unfold zkL
   rw[if_neg (show¬(ze5 r).2=[] from hne)]
   show [(⟨(n:Int),zcM (recT r),zfy r⟩:EntL)]++_++es=_
   rw[zjJ]
   rfl
  rw[List.length_cons]at hl
  rw[e]
  refine EntsIs.more _ _ _ _ _ _ hr (rec_ent (hG r (List.mem_cons_self ..)) (by omega) (n:Int)) ?_
  refine zgK R _ (n+1) (fun x hx=>hG x (List.mem_cons_of_mem _ hx)) ?_ hr h
  show(st.out++ [r]).length+R.length≤4096
  rw[List.length_append]
  show st.out.length+1+R.length≤4096
  omega
theorem ziA(a b:List Lab):zaF (a++b)=zaF a++zaF b:=by unfold zaF;rw[List.flatMap_append]
theorem zjK(R:List RecL):(R.map ze5).map Prod.fst=R.map recT:=by rw[List.map_map];rfl
theorem zjv{R:List RecL}(h:∀r∈R,RecG r):(zaF (R.map recT)).length≤R.length*100001:=by
 have:=zez (R.map recT) 100000 fun l hl=>by
  obtain⟨r,hr,rfl⟩:=List.mem_map.1 hl
  exact(zhT (h r hr)).2.2
 rwa [List.length_map]at this
theorem zki{R:List RecL}{o:Nm}(hG:∀r∈R,RecG r)(hl:R.length≤60):∃st',zg0 [([122],zaF (R.map recT))] [122] o Option.none st'∧st'.out=R:=by
 obtain⟨h1,h2,_⟩:=zfo R {ld0 o with path:=[122],reads:=[[122]]} 1
 refine⟨{zch {ld0 o with path:=[122],reads:=[[122]]} 1 R with reads:=(zch {ld0 o with path:=[122],reads:=[[122]]} 1 R).reads.dropLast},.inl ⟨1,R.map ze5,zch {ld0 o with path:=[122],reads:=[[122]]} 1 R,?_,?_,Nat.zero_le _,?_,fun _=>⟨by rw[h2];exact Nat.le_refl 1,by rw[h2];exact Nat.le_of_ble_eq_true rfl,rfl⟩,fun h=>absurd rfl h⟩,by rw[h1];rfl⟩
 ·rw[zjK];simp[zcr]
 ·exact lnsOk (fun x hx=>by obtain⟨r,hr,rfl⟩:=List.mem_map.1 hx;exact zhT (hG r hr)) (by rw[List.length_map];omega)
 ·have:=zgK (fl:=[([122],zaF (R.map recT))]) (inc:=zcX [([122],zaF (R.map recT))] 0) R {ld0 o with path:=[122],reads:=[[122]]} 1 hG (by show 0+R.length≤4096;omega) (by show 1≤1000;omega) (EntsIs.nil _)
  rw[List.append_nil]at this
  exact this
theorem ziz{R:List RecL}{i:Nat}(h:i<R.length):zaF ((R.take (i+1)).map recT)=zaF ((R.take i).map recT)++recT R[i]++ [10]:=by
 rw[zai h,List.map_append,ziA,List.map_singleton,zcm]
 simp[zaF]
theorem zhD{W:World}(hX:WX W)(hY:WY W){lv ov:Value}{R:List RecL}{o:Nm}(hl:Rows 7 (RecAt W) W lv R)(hnum:∀r∈R,zlg r)(ho:Row W ov (o.map vs)):
  Fn Tryz.prog 3 #[lv,ov] W (fun v w'=>v= .bool true∧Ext W w'):=by
 obtain⟨aR,cR,rfl,hcR,hgR⟩:=hl.open
 refine enter Tryz.func3 Tryz.ntmps3 rfl rfl ?_
 refine go trivial ?_
 refine rc trivial (zln hX hY) ?_
 rintro _ w1 ⟨rfl,hE1⟩
 refine rgo trivial ?_
 refine rcg [(3,15)] trivial (zi9 ((hl.ext hE1).to fun cs a h=>h.ext hE1) hnum) ?_
 rintro _ w2 ⟨hE2,b,rfl,hb⟩
 have hE12:=hE1.trans hE2
 cases b with
 |false=>
  refine reg [(3,15)] trivial ?_
  refine go trivial ?_
  refine rt0 Tryz.ntmps3 ?_
  exact⟨rfl,hE12⟩
 |true=>
 obtain⟨hRl,hG⟩:=hb rfl
 refine rdg [(3,15)] trivial (NGood_ok w2 ov o (ho.ext hE12)) ?_
 rintro _ w3 ⟨rfl,hE3⟩
 have hE13:=hE12.trans hE3
 cases hg2:ziP o with
 |false=>
  refine reg [(3,15)] trivial ?_
  refine go trivial ?_
  refine rt0 Tryz.ntmps3 ?_
  exact⟨rfl,hE13⟩
 |true=>
 refine reg [(3,15)] trivial ?_
 refine go trivial ?_
 have tl:∀i,(zaF ((R.take i).map recT)).length≤6000060:=fun i=>by
  have h1:=zjv (R:=R.take i) fun r hr=>hG r (List.mem_of_mem_take hr)
  have h2:(R.take i).length≤60:=by rw[List.length_take];omega
  omega
 refine za3 R.length (fun i σ A=>(σ 0= .slice aR R.length cR∧σ 1=ov∧σ 5=vs (zaF ((R.take i).map recT))∧σ 6=vi i)∧Ext W A) ?_ ?_ ?_
 ·exact⟨⟨vr0,vr0,vr0,vr0⟩,hE13⟩
 ·rintro i σ A hi rr ⟨⟨s0,s1,s5,s6⟩,hEA⟩
  have hi0:(0:Int)≤(i:Int):=by omega
  have hi1:(i:Int)<(R.length:Int):=by omega
  obtain⟨cr,hcr,hRr⟩:=hgR i hi
  obtain⟨r,hr⟩:∃r,R[i]=r:=⟨_,rfl⟩
  rw[hr]at hRr
  have hGr:RecG r:=hG r (hr▸List.getElem_mem hi)
  have hTr:=recG_T hGr
  have hlr:=zhU hGr
  obtain⟨xR,rfl⟩:=Option.isSome_iff_exists.1 (zaA hcr)
  obtain⟨xi,hxi⟩:∃xi,adr (some xR) (i*7)=some xi:=⟨_,rfl⟩
  rw[hxi]at hcr
  have hcA:=zah hEA hcr
  refine go (an4 s0 s6 rr hi1) ?_
  refine rc (an6 s0 s6 hi0 hi1 hxi hcA) (zc2 (hY.ext hEA) (hRr.ext hEA) hTr.1) ?_
  rintro _ A1 ⟨rfl,hA1⟩
  refine rgo trivial ?_
  have hcB:=zah hA1 hcA
  have hEB:=hEA.trans hA1
  refine rc (an6 s0 s6 hi0 hi1 hxi hcB) (zhx hEB hRr hGr.dat.nn) ?_
  rintro _ A2 ⟨hA2,cs',nm',rfl,hx⟩
  refine rd trivial (zhz (hx.at (hEB.trans hA2)) hGr) ?_
  rintro _ A3 ⟨rfl,hA3⟩
  have tl1:=tl i
  have l1:(zaF ((R.take i).map recT)).length+(recT r).length≤9223372036854775807:=by omega
  have l2:(zaF ((R.take i).map recT)++recT r).length+([10]:Lab).length≤9223372036854775807:=by rw[List.length_append];show _+1≤_;omega
  refine rgo (an6 (show decide (recT r=recT r)=true from decide_eq_true rfl) s5 l1 l2 s6 rr) ?_
  have ts:=ziz hi
  rw[hr]at ts
  refine⟨rfl,⟨(vq1 s0),(vq1 s1),?_,(vq1 rr)⟩,hEB.trans (hA2.trans hA3)⟩
  rw[ts]
  simp only[go_sem,s5]
 ·rintro σ A rr ⟨⟨s0,s1,s5,s6⟩,hEA⟩
  rw[List.take_length]at s5
  obtain⟨st',hLI,hout⟩:=zki (o:=o) hG hRl
  obtain⟨t,ht⟩:∃t,zaF (R.map recT)=t:=⟨_,rfl⟩
  rw[ht]at s5 hLI
  refine go (an3 s0 s6 rr) ?_
  refine rq ?_;intro gd K hgd hK
  try simp (disch:=first|omega|assumption|rfl) only[go_sem,s5,s1]
  refine⟨by kernel_rfl,?_⟩
  refine zfG (v:= .agg #[vs [122],vs t]) (by kernel_rfl) ?_
  try simp (disch:=first|omega|assumption|rfl) only[go_sem,s5,s1]
  refine zkZ (e:=48) (arr:=#[vs [122],vs t]) (by kernel_rfl) ?_
  intro A1 e1 n1 b1
  have hf:=zgF b1
  try simp (disch:=first|omega|assumption|rfl) only[go_sem,s5,s1]
  refine Fn.mono (zf7 (o:=o) (hX.ext (hEA.trans e1)) hf (Nat.le_of_ble_eq_true rfl) (ho.ext (hEA.trans e1)) (goodN_U hg2) hLI) ?_
  rintro _ A2 ⟨e2,rv,rfl,hR⟩
  rw[hout]at hR
  try simp (disch:=first|omega|assumption|rfl) only[go_sem,s0]
  refine hK _ _ ?_;clear hK hgd;clear K;try clear gd
  have hE2:=(hEA.trans e1).trans e2
  obtain⟨ra,rcap,rfl,_⟩:=Rows.open (k:=7) (xs:=R) hR
  refine go trivial ?_
  have nn:∀r∈R,r.dat.names.length≤1000000000:=fun r hr=>(hG r hr).dat.nn
  refine rcg [(2,53)] (an2 s0 trivial) (zit (w0:=A2) (Keep.refl _ _) hR nn (by omega)) ?_
  rintro v1 A3 ⟨e3,hr1⟩
  refine rdg [(2,53)] (an2 s0 trivial) (zit (hE2.trans e3) (hl.ext (hE2.trans e3)) nn (by omega)) ?_
  rintro v2 A4 ⟨e4,hr2⟩
  refine rdg [(2,53)] (an2 s0 trivial) (Is5E_ok A4 ((hr1.ext e4).to fun cs a h=>h.ext e4) hr2 (fun r hr=>⟨by have:=(few_T (hG r hr).few).2;omega,(few_D (hG r hr).dat (hG r hr).num).1⟩) (by omega)) ?_
  rintro _ A5 ⟨rfl,e5⟩
  refine reg [(2,53)] trivial ?_
  refine go trivial ?_
  refine rt0 Tryz.ntmps3 ?_
  exact⟨rfl,((hE2.trans e3).trans e4).trans e5⟩
end Go.Proofs.YtihbdhjibplldaaGreatDoor
namespace Go.Proofs.YtihbdhjibplldaaGreatDoor.loadText
open Go Go.Proofs.YtihbdhjibplldaaGreatDoor
theorem j1:(Rows.loadTextRow.inPlace==Tryz.pinned.checked.prog.inPlace 3)=true:=by kernel_rfl
theorem j2:(Rows.loadTextRow.unfollowed==Tryz.pinned.checked.prog.unfollowed 3)=true:=by kernel_rfl
theorem j3:(Rows.loadTextRow.recurses==Tryz.pinned.checked.prog.recurses 3)=true:=by kernel_rfl
theorem j4:(Rows.loadTextRow.named==Tryz.pinned.checked.prog.varsNamed 3)=true:=by kernel_rfl
theorem j5:(Tryz.pinned.checked.prog.mayEnter)=true:=by kernel_rfl
theorem j6:(Rows.loadTextRow.lifted==Tryz.pinned.checked.prog.liftsFinal)=true:=by kernel_rfl
theorem joined:joinedFacts Tryz.pinned.checked.prog 3 Tryz.f3 Rows.loadTextSpec Rows.loadTextRow=true:=by
 unfold joinedFacts
 rw[j1,j2,j3,j4,j5,j6]
 kernel_rfl
end Go.Proofs.YtihbdhjibplldaaGreatDoor.loadText
namespace Go.Proofs.YtihbdhjibplldaaGreatDoor
open Go Go.ChangeShapes Go.WideShapes Go.ChangeAt Go.RowKit
theorem zkn{C:Checked}{os:Os}{f:FuncId}{fn:Func}{s:ChangeSpec}{conds:List PathCond}{apart fresh handsOn again:Bool}{H:Type}{enc:TypeId×Value→H}{X:World→Prop}
  (hX:∀(w w':World),w.heap=w'.heap→X w→X w')
  (own:ownKnob C.prog.godebug=none) (started:os.Started) (noInit:C.prog.inits.idxOf? f=none) (hfn:C.prog.funcs[f]? =some fn)
  (witness:∃(w:World) (tape:Tape) (i:Input),w.os=os∧(w.forCall tape i).Shaped C.prog∧i.vars=[]∧Input.okWide C.prog (w.forCall tape i) .any w.heap.size f i∧
   ((s.pre enc C.prog fn conds apart (w.forCall tape i).memory i.args∧X (w.forCall tape i).memory)∧sizedMet enc C.prog fn (OpenSpec.ofChange s) apart (w.forCall tape i).memory i.args)∧({}:Assume).holds C.prog (lone (Frame.enter C.prog f i.args .normal) [] (w.forCall tape i)))
  (hvn:s.vars=[]) (hspec:∀ds:List (DataW H),ds.length=fn.params.size→s.fn H ds={results:=[.lit (.bool true)],args:=ds}) {tb:TypeId} (hrt:fn.resultTypes=#[tb]) (htb:C.prog.underlying tb=some .bool)
  (hl:laidOutB C.prog=true) (hrd:fn.params.toList.all (fun t=>C.prog.readableRec t && decide (t<C.prog.types.size))=true)
  (walk:∀(W:World) (base:Nat) (args:List Value) (ds:List (DataW H)) (p:List MemPlace),X W→W.ShapedOpen C.prog→(∀(j:Nat) t v,fn.params[j]? =some t→args[j]? =some v→Value.okWide C.prog W .any base t v)→
   DataW.TrodAll enc C.prog W 0 (fun _=>true) true fn.params.toList args ds p→(∀x∈DataW.weightsEach C.prog fn.params.toList ds,x≤reachBytes)→Fn C.prog f args.toArray W (fun v W'=>v= .bool true∧Ext W W')):
  ReturnsInHanded {} C os f .any (fun w args=>(s.pre enc C.prog fn conds apart w args∧X w)∧sizedMet enc C.prog fn (OpenSpec.ofChange s) apart w args) (s.post enc C.prog fn apart fresh handsOn again):=by
 refine returnsInHanded_of_calls own started noInit witness ?_
 intro w tape i _ hsh _ hok hpre hholds
 obtain⟨_,_,_,fn',hfn',_,_,_,_,hval⟩:=hok
 have e:fn'=fn:=Option.some.inj (hfn'.symm.trans hfn)
 subst e
 obtain⟨⟨⟨ds,gs,before,hw,hc⟩,hx⟩,hz⟩:=hpre
 have hW:=DataW.Whole.of_heap (w':=w.forCall tape i) (by rfl) hw
 have hwt:(DataW.weightsEach C.prog (fn'.params.toList++s.plain.varTypes C.prog) (ds++gs)).all (·≤reachBytes)=true:=hz.weights hw
 have hXW:=hX _ (w.forCall tape i) (by rfl) hx
 obtain⟨W,hWe⟩:∃W,w.forCall tape i=W:=⟨_,rfl⟩
 rw[hWe]at hW hXW hsh hval ⊢
 refine Calls.mono (R:=fun e W'=>∃v,e= .returned v∧s.post enc C.prog fn' apart fresh handsOn again W i.args v W') ?_ (fun e W' ⟨v,he,hp⟩=>?_)
 rotate_left
 ·subst he
  exact ChangeSpec.post_blind hp
 obtain⟨args,hargs⟩:∃a,i.args=a:=⟨_,rfl⟩
 rw[hargs]at hval hW ⊢
 have hW0:=hW
 obtain⟨p,q,hA,hV,_⟩:=hW
 have hgs:gs=[]:=by
  rw[hvn]at hV
  cases gs with
  |nil=>rfl
  |cons _ _=>exact hV.elim
 subst hgs
 have hvt:s.plain.varTypes C.prog=[]:=by
  unfold DataSpec.varTypes
  rw[show s.plain.vars=[] from hvn];rfl
 rw[hvt,List.append_nil,List.append_nil]at hwt
 have hlen:∀{ts:List TypeId} {vs:List Value} {ds:List (DataW H)} {ps:List MemPlace},DataW.TrodAll enc C.prog W 0 (fun _=>true) true ts vs ds ps→ds.length=ts.length:=by
  intro ts
  induction ts with
  |nil=>intro vs ds ps h;obtain⟨rfl,rfl,rfl⟩:=trodAll_nil h;rfl
  |cons t ts ih=>
   intro vs ds ps h
   obtain⟨v,vs1,d,ds1,a,b,rfl,rfl,rfl,h1,h2⟩:=trodAll_cons h
   simp[ih h2]
 have hw:=walk W w.heap.size args.toList ds p hXW hsh (fun j t v h1 h2=>hval j t v h1 (by simpa using h2)) hA (fun x hx=>by simpa using (List.all_eq_true.1 hwt) x hx)
 rw[Array.toArray_toList]at hw
 refine Calls.mono (callsIn_wide.1 hw) ?_
 rintro e W' ⟨v,rfl,rfl,hE⟩
 refine⟨_,rfl,law_post hW0 hvn (hspec ds (by rw[hlen hA];simp)) hrt htb hl (fun t ht=>?_) hE⟩
 have:=(List.all_eq_true.1 hrd) t ht
 simpa using this
end Go.Proofs.YtihbdhjibplldaaGreatDoor
namespace Go.Proofs.YtihbdhjibplldaaGreatDoor
open Go
set_option maxRecDepth 100000
def bruijn64:List Int:=[0,1,56,2,57,49,28,3,61,58,42,50,38,29,17,4,62,47,59,36,45,43,51,22,53,39,33,30,24,18,12,5,63,55,48,27,60,41,37,16,46,35,44,21,52,32,23,11,54,26,40,15,34,20,31,10,25,14,19,9,13,8,7,6]
theorem zfR{H:Type}{enc:TypeId×Value→H}{P:Program}{w:World}{base:Nat}{sp:Nat→Bool}{held:Bool}{fuel:Nat}{t:TypeId}{cs:List Value}{nm:String}{d:DataW H}{p:List MemPlace}{ms:Array (String×TypeId)}
  (ht:P.underlying t=some (.interface ms)) (h:DataW.trod enc P w base sp held fuel t cs=some (.iface nm d,p)):∃u v,cs=[.iface u v]:=by
 cases fuel with
 |zero=>simp[DataW.trod]at h
 |succ fuel=>
  simp only[DataW.trod,ht]at h
  split at h<;>first| (rename_i heq _;cases heq;done)| (cases h;done)|exact⟨_,_,rfl⟩|simp_all
theorem WX_of{W:World}{rest:List (String×DataW Unit)}(hsh:W.ShapedOpen Tryz.prog)(h:laidMet Tryz.prog ((Rows.loadTextRow.laid.take 5)++rest) W):WX W:=by
 have h1:=laidMet.tail h
 have h2:=laidMet.tail h1
 have h4:=laidMet.tail (laidMet.tail h2)
 have tz:=Lib.tabIs_of_head (g:=3) (t:=205) (e:=5) (n:=64) (k:= .u8) (zs:=bruijn64) (by kernel_rfl) (by kernel_rfl) (by kernel_rfl) (by kernel_rfl) (by kernel_rfl) (by kernel_rfl) h1
 have tp:=Lib.tabIs_of_head (g:=0) (t:=157) (e:=71) (n:=20) (k:= .u64) (zs:=Lib.pow10Tab) (by kernel_rfl) (by kernel_rfl) (by kernel_rfl) (by kernel_rfl) (by kernel_rfl) (by kernel_rfl) h2
 obtain⟨u,v,hv⟩:∃u v,W.cell? ⟨7,0,Option.none⟩=some (.iface u v):=by
  obtain⟨_,⟨g0,t0,cs0,f0,p0,q0,hg0,ht0,hv0,hd0,_,_⟩,_,_⟩:=h4
  obtain rfl:=Option.some.inj ((show Tryz.prog.globalNamed _=some 7 by kernel_rfl).symm.trans hg0)
  obtain rfl:=Option.some.inj ((show(Tryz.prog.globals[7]?).map (·.type)=some 100 by kernel_rfl).symm.trans ht0)
  obtain⟨u,v,hcs⟩:=zfR Tryz.underlying100 hd0
  have e0:cs0=#[.iface u v]:=Array.toList_inj.1 (by simpa using hcs)
  exact⟨u,v,by rw[World.var?_cell hg0 hv0 0,e0];rfl⟩
 refine⟨cell_of_shapedOpen_int (t:=3) (zero:=#[.int .i64 0]) hsh (by decide+kernel) (by kernel_rfl) rfl (by kernel_rfl) (by kernel_rfl) (by kernel_rfl),?_,⟨u,v,hv⟩,⟨4,World.var?_cell (by kernel_rfl) tz 15,by decide,by decide⟩⟩
 have h3:=tp
 unfold Lib.TabIs World.var? at h3
 rw[show Tryz.prog.globalNamed _=some 0 from by kernel_rfl,Option.bind_some]at h3
 split at h3
 ·rename_i cs t fr hh
  injection h3 with h3
  exact⟨t,fr,by rw[hh,h3]⟩
 ·cases h3
def bruijnT:List Int:=[0,1,56,2,57,49,28,3,61,58,42,50,38,29,17,4,62,47,59,36,45,43,51,22,53,39,33,30,24,18,12,5,63,55,48,27,60,41,37,16,46,35,44,21,52,32,23,11,54,26,40,15,34,20,31,10,25,14,19,9,13,8,7,6]
theorem WY_of{W:World}{rest:List (String×DataW Unit)}(h:laidMet Tryz.prog ((Rows.loadTextRow.laid.take 3)++rest) W):WY W:=by
 have h1:=laidMet.tail h
 have h2:=laidMet.tail h1
 have tz:=Lib.tabIs_of_head (g:=3) (t:=205) (e:=5) (n:=64) (k:= .u8) (zs:=bruijnT) (by kernel_rfl) (by kernel_rfl) (by kernel_rfl) (by kernel_rfl) (by kernel_rfl) (by kernel_rfl) h1
 have tp:=Lib.tabIs_of_head (g:=0) (t:=157) (e:=71) (n:=20) (k:= .u64) (zs:=Lib.pow10Tab) (by kernel_rfl) (by kernel_rfl) (by kernel_rfl) (by kernel_rfl) (by kernel_rfl) (by kernel_rfl) h2
 refine⟨?_,World.var?_cell (by kernel_rfl) tz 15⟩
 have h3:=tp
 unfold Lib.TabIs World.var? at h3
 rw[show Tryz.prog.globalNamed _=some 0 from by kernel_rfl,Option.bind_some]at h3
 split at h3
 ·rename_i cs t fr hh
  injection h3 with h3
  exact⟨t,fr,by rw[hh,h3]⟩
 ·cases h3
end Go.Proofs.YtihbdhjibplldaaGreatDoor
namespace Go.Proofs.YtihbdhjibplldaaGreatDoor.loadText
open Go Go.Proofs.YtihbdhjibplldaaGreatDoor Go.ChangeShapes Go.WideShapes Go.ChangeAt Go.RowKit
theorem own:ownKnob Tryz.prog.godebug=none:=by kernel_rfl
set_option maxRecDepth 100000 in
theorem lifted(os:Os)(started:os.Started)(H:Type)(enc:TypeId×Value→H):
  ReturnsInHanded {} Tryz.checked os 3 .any (fun w args=>(Rows.loadTextSpec.pre enc Tryz.prog Tryz.f3 Rows.loadTextRow.domain false w args∧laidMetH Tryz.prog Rows.loadTextRow.laid w)∧sizedMet enc Tryz.prog Tryz.f3 (OpenSpec.ofChange Rows.loadTextSpec) false w args)
   (Rows.loadTextSpec.post enc Tryz.prog Tryz.f3 false true false false):=by
 refine zkn (C:=Tryz.checked) (X:=laidMetH Tryz.prog Rows.loadTextRow.laid) (fun _ _ hh h=>h.of_heap hh) own started (by kernel_rfl) Tryz.func3
  (ChangeSpec.witness_shaped (enc:=enc) (C:=Tryz.checked) (os:=os) (X:=fun w _=>laidMetH Tryz.prog Rows.loadTextRow.laid w) false (World.laidAll Tryz.prog os Rows.loadTextRow.laid) #[.slice Option.none 0 0,.slice Option.none 0 0] 8 (World.laidAll_os _ _ _)
   (World.shaped_of_ZipB (by kernel_rfl) (by kernel_rfl)) (by kernel_rfl) (by kernel_rfl) (by kernel_rfl)
   (by rw[MakeChecks.laidMetH_plain _ _ _ (by kernel_rfl)];exact laidMet_laidAll _ (by kernel_rfl) (by kernel_rfl))) rfl ?_ (tb:=4) rfl rfl (by kernel_rfl) (by kernel_rfl) ?_
 ·intro ds hds
  match ds,hds with
  | [d0,d1],_=>rfl
 ·intro W base args ds p hXW hsh hval hA0 hw0
  rw[MakeChecks.laidMetH_plain _ _ _ (by kernel_rfl)]at hXW
  have hX:WX W:=WX_of (rest:=Rows.loadTextRow.laid.drop 5) hsh hXW
  have hY:WY W:=WY_of (rest:=Rows.loadTextRow.laid.drop 3) hXW
  have hA:DataW.TrodAll enc Tryz.prog W 0 (fun _=>true) true [22,24] args ds p:=hA0
  have hw:∀x∈DataW.weightsEach Tryz.prog [22,24] ds,x≤reachBytes:=hw0
  obtain⟨v0,vs0,d0,ds0,p0,q0,rfl,rfl,rfl,h0,r0⟩:=trodAll_cons hA
  obtain⟨v1,vs1,d1,ds1,p1,q1,rfl,rfl,rfl,h1,r1⟩:=trodAll_cons r0
  obtain⟨rfl,rfl,rfl⟩:=trodAll_nil r1
  obtain⟨a0,n0,c0,rfl⟩:=okWide_slice (e:=36) rfl (hval 0 _ _ rfl rfl)
  obtain⟨x0,f0,g0⟩:=rd_recsN (zfd h0 rfl hw (j:=0) rfl rfl)
  obtain⟨a1,n1,c1,rfl⟩:=okWide_slice (e:=9) rfl (hval 1 _ _ rfl rfl)
  obtain⟨x1,f1,g1⟩:=zfA (P:=Tryz.prog) (zfd h1 rfl hw (j:=1) rfl rfl) (e:=9) rfl rfl rfl rfl
  exact zhD hX hY f0 g0 f1
theorem over:Rows.loadTextRow.holds Tryz.pinned (OpenSpec.ofChange Rows.loadTextSpec):=
 OpenClaim.holds_of_wide 3 Tryz.f3 rfl rfl rfl rfl rfl rfl rfl ⟨rfl,rfl,rfl,rfl,rfl⟩ rfl rfl rfl rfl rfl (by kernel_rfl) Tryz.func3 joined
  (of_decide_eq_true (by kernel_rfl)) (by unfold Func.isWrapper;first| (rw[if_pos (by decide+kernel)];kernel_rfl)| (rw[if_neg (by decide+kernel)];exact⟨rfl,rfl⟩))
  (fun os started H enc _=>lifted os started H enc)
theorem proved:Rows.LoadTextCardSaid:=
 Claim7.holds_tied_plain_at .later [] [.data,.data,.data,.data,.sentinel,.sentinel,.pinned,.pinned] true Rows.loadTextCard.stood.harness true over (fun _ h=>by cases h) (by kernel_rfl) (fun _ h=>by cases h) loadText_row_tie rfl ⟨rfl,rfl⟩ (by kernel_rfl) rfl
  (fun f fn hf hfn=>by
   obtain rfl:f=3:=Option.some.inj ((show Tryz.prog.funcNamed Rows.loadTextRow.func=some 3 by kernel_rfl).symm.trans hf)|>.symm
   obtain rfl:fn=Tryz.f3:=(Option.some.inj (Tryz.func3.symm.trans hfn)).symm
   exact⟨by kernel_rfl,fun j t ht=>by
    have hm:t∈ [22,24]:=by simpa using Array.mem_of_getElem? (show(#[22,24]:Array TypeId)[j]? =some t from ht)
    have hall:([22,24].all fun u=>!Tryz.prog.wantsStandIn u)=true:=by kernel_rfl
    exact(show Tryz.prog.wantsStandIn t=false by simpa using List.all_eq_true.1 hall t hm)⟩)
  (by kernel_rfl)
end Go.Proofs.YtihbdhjibplldaaGreatDoor.loadText
