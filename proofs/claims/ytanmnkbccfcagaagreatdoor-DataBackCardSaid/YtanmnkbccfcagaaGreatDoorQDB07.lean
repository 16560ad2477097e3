/-
  Texts of a proof, joined: G2, G3, G4, G5, HX, K26, JR, JS, K29, K37, JT, JU, NG, NI, NH, NJ.
  Conditions: none.
-/
import Derived.Test.YtanmnkbccfcagaaGreatDoorQDB06
import Derived.Test.YtanmnkbccfcagaaGreatDoorQDB01
import Derived.Test.YtanmnkbccfcagaaGreatDoorQDB03
import Derived.Test.YtanmnkbccfcagaaGreatDoorQDB05
set_option linter.unusedVariables false
set_option linter.unusedSimpArgs false
set_option linter.defProp false
set_option linter.unnecessarySimpa false
set_option maxHeartbeats 8000000
namespace Go.Proofs.YtanmnkbccfcagaaGreatDoor
open Go
set_option maxRecDepth 10000
structure DatX(w0:World)(B:Nat)(A:World)(nm:Value)(cs:List Value)(d:DatL):Prop where
 ex:∃nu tx rw vals,cs=[vi d.ty,nm,nu,tx,rw]∧Row A nm vals∧vals.length=d.names.length∧(∀i (h:i<vals.length) (h':i<d.names.length),Row w0 vals[i] (d.names[i].map vs))∧Row w0 nu (d.nums.map v32)∧Row w0 tx (d.texts.map vs)∧Row w0 rw (d.raw.map zak)
 blk:BlkB B A nm
theorem DatX.at{w0 A:World}{B:Nat}{nm:Value}{cs:List Value}{d:DatL}(h:DatX w0 B A nm cs d)(hE:Ext w0 A):DatAt A cs d:=by
 obtain⟨nu,tx,rw,vals,e,h1,h2,h3,h4,h5,h6⟩:=h.ex
 exact⟨nm,nu,tx,rw,e,⟨vals,h1,h2,fun i a b=>(h3 i a b).ext hE⟩,h4.ext hE,h5.ext hE,h6.ext hE⟩
theorem DatX.keep{w0 A x:World}{B:Nat}{nm:Value}{cs:List Value}{d:DatL}(h:DatX w0 B A nm cs d){S:Nat→Prop}(hk:Keep S A x)(hS:∀a n c,nm= .slice (some a) n c→¬S a.block):DatX w0 B x nm cs d:=by
 obtain⟨nu,tx,rw,vals,e,h1,h2,h3,h4,h5,h6⟩:=h.ex
 exact⟨⟨nu,tx,rw,vals,e,h1.blocks fun a n c hv=>hk.block _ (h.blk a n c hv).2 (hS a n c hv),h2,h3,h4,h5,h6⟩,h.blk.ext hk.size⟩
theorem DatX.mono{w0 A:World}{B B':Nat}{nm:Value}{cs:List Value}{d:DatL}(h:DatX w0 B A nm cs d)(hB:B'≤B):DatX w0 B' A nm cs d:=⟨h.ex,h.blk.mono hB⟩
theorem ziu{w0 w:World}(hE0:Ext w0 w){cs:List Value}{d:DatL}(hd:DatAt w0 cs d)(hnn:d.names.length≤1000000000):
  Fn Tryz.prog 31 #[.agg cs.toArray] w (fun v w'=>Ext w w'∧∃cs' nm,v= .agg cs'.toArray∧DatX w0 w.heap.size w' nm cs' d):=by
 obtain⟨nm,nu,tx,rw',rfl,⟨vals,⟨an,cn,rfl,hcn,hgn⟩,hvl,hvr⟩,hnu,htx,hrw⟩:=hd.ex
 obtain⟨au,cu,rfl,_⟩:=id hnu
 obtain⟨at1,ct,rfl,_⟩:=id htx
 obtain⟨ar,cr,rfl,_⟩:=id hrw
 refine enter Tryz.func31 Tryz.ntmps31 rfl rfl ?_
 repeat refine c_r ?_
 refine rg0 ?_
 repeat refine c_r ?_
 rw[zaq]
 refine zcN ?_
 intro w1 hE1 hs1 hA hC
 have p0:zag w1 (some ⟨w.heap.size,0,Option.none⟩)=some (vi d.ty):=zab hA rfl
 have p1:zag w1 (some ⟨w.heap.size,1,Option.none⟩)=some (.slice an vals.length cn):=zab hA rfl
 have p2:zag w1 (some ⟨w.heap.size,2,Option.none⟩)=some (.slice au (d.nums.map v32).length cu):=zab hA rfl
 have p3:zag w1 (some ⟨w.heap.size,3,Option.none⟩)=some (.slice at1 (d.texts.map vs).length ct):=zab hA rfl
 have p4:zag w1 (some ⟨w.heap.size,4,Option.none⟩)=some (.slice ar (d.raw.map zak).length cr):=zab hA rfl
 refine rq ?_;intro gd K hgd hK
 try simp (disch:=first|omega|assumption|rfl) only[go_sem,p0,p2,p3,p4,Nat.add_zero,Nat.zero_add]
 refine⟨by kernel_rfl,?_⟩
 rw[show bdV Tryz.prog 67 [(0,vi d.ty),(2,.slice au (d.nums.map v32).length cu),(3,.slice at1 (d.texts.map vs).length ct),(4,.slice ar (d.raw.map zak).length cr)]=some (.agg #[vi d.ty,.slice Option.none 0 0,.slice au (d.nums.map v32).length cu,.slice at1 (d.texts.map vs).length ct,.slice ar (d.raw.map zak).length cr]) from by kernel_rfl]
 try simp only[go_sem]
 have hB3:=zao w1 (.cells #[vi 0,.slice Option.none 0 0,.slice Option.none 0 0,.slice Option.none 0 0,.slice Option.none 0 0] 67 (0,0))
 have hE4:=Ext.alloc w1 (.cells #[vi 0,.slice Option.none 0 0,.slice Option.none 0 0,.slice Option.none 0 0,.slice Option.none 0 0] 67 (0,0))
 have hs4:=zaq w1 (.cells #[vi 0,.slice Option.none 0 0,.slice Option.none 0 0,.slice Option.none 0 0,.slice Option.none 0 0] 67 (0,0))
 revert hB3 hE4 hs4
 generalize w1.alloc (.cells #[vi 0,.slice Option.none 0 0,.slice Option.none 0 0,.slice Option.none 0 0,.slice Option.none 0 0] 67 (0,0))=w2
 intro hB3 hE4 hs4
 refine zaI (P:=Tryz.prog) (t:=67) (l:=[vi d.ty,.slice Option.none 0 0,.slice au (d.nums.map v32).length cu,.slice at1 (d.texts.map vs).length ct,.slice ar (d.raw.map zak).length cr]) hB3 rfl (fun v h=>by simp at h;rcases h with rfl|rfl|rfl|rfl|rfl<;>rfl) rfl rfl ?_
 intro w3 hs5 hB5 hk5
 try simp only[go_sem]
 refine hK _ _ ?_;clear hK hgd;clear K;try clear gd
 have hE13:Ext w1 w3:=Keep.to_ext hE4 rfl (fun b hb=>by omega) hk5
 obtain⟨b3,hb3⟩:∃b3,w1.heap.size=b3:=⟨_,rfl⟩
 rw[hb3]at hB5
 have hs3:w3.heap.size=b3+1:=by omega
 repeat refine c_r ?_
 refine rg0 ?_
 repeat refine c_r ?_
 rw[hb3]
 refine zaR (fun m σ ds A=>ds=[]∧∃(i:Nat) (nv:Value),i+m=vals.length∧σ 4=vi i∧σ 1= .pointer (some ⟨w.heap.size,0,Option.none⟩)∧σ 2= .pointer (some ⟨w.heap.size+1,0,Option.none⟩)∧σ 3= .pointer (some ⟨b3,0,Option.none⟩)∧A.heap[b3]? =some (.cells [vi d.ty,nv,.slice au (d.nums.map v32).length cu,.slice at1 (d.texts.map vs).length ct,.slice ar (d.raw.map zak).length cr].toArray 67 (0,0))∧Own w3.heap.size A 23 nv (vals.take i)∧Ext w1 A∧w3.heap.size≤A.heap.size) vals.length ?_ ?_
 ·exact⟨rfl,0,.slice Option.none 0 0,by omega,vr0,vq0,vq0,vq0,hB5,Own.nil _ _ _,hE13,Nat.le_refl _⟩
 rintro m σ ds A ⟨rfl,i,nv,him,h4,h1,h2,h3,hb,hown,hEA,hsA⟩
 have q1:=zaa hEA p1
 have s1:=hE1.size
 repeat refine c_r ?_
 refine rg4 h4 h1 q1 Nat.zero_add ?_
 repeat refine c_r ?_
 refine wc0 ?_ ?_
 ·intro hlt
  simp only[decide_eq_true_eq]at hlt
  have hi:i<vals.length:=by omega
  have hi0:(0:Int)≤(i:Int):=by omega
  have hi1:(i:Int)<(vals.length:Int):=by omega
  have hi1':(i:Int)+1=((i+1:Nat):Int):=by push_cast;rfl
  have hgi:=hgn i hi
  obtain⟨xN,rfl⟩:=Option.isSome_iff_exists.1 (zaj hgi)
  obtain⟨xi,hxi⟩:∃xi,adr (some xN) i=some xi:=⟨_,rfl⟩
  rw[hxi]at hgi
  have hgA:=zaa (hE0.trans (hE1.trans hEA)) hgi
  have hxb:xi.block<w3.heap.size:=by
   have:=zeF (show w0.cell? xi=some _ from hgi)
   have:=(hE0.trans (hE1.trans hE13)).size
   omega
  have hrow:=hvr i hi (by omega)
  obtain⟨hv,hhv⟩:∃hv,vals[i]=hv:=⟨_,rfl⟩
  rw[hhv]at hgA hrow
  obtain⟨ha,hc,hve,_⟩:=id hrow
  have hone:one hv=true:=by rw[hve];rfl
  have htk:vals.take (i+1)=vals.take i++ [hv]:=by rw[zal hi,hhv]
  have hnv:zag A (some ⟨b3,1,Option.none⟩)=some nv:=zaG hb rfl
  have hvals:(vals.take i).length≤1000000000:=by rw[List.length_take];omega
  repeat refine c_r ?_
  refine zaY (fun i=>i==10) [(0,true),(1,true),(2,true),(3,true),(4,true),(5,true),(6,true),(7,false),(8,false),(9,true),(10,false)] (zb2 w3.heap.size) mixed (by kernel_rfl) ?_;intro gd K x hgd hx hxe hK;have hx0:=zaW hxe;clear hxe
  have hgx:=zaa hx0 hgA
  have hnx:=zaa hx0 hnv
  have q1x:=zaa hx0 q1
  have hxs:=hx.size
  simp (disch:=first|omega|assumption|rfl) only[go_sem,h4,h1,h3,q1x,hgx,hnx,hi0,hi1,hxi,Nat.zero_add,Nat.mul_one]
  refine⟨zaU (by omega),zaU (by omega),off_of hxb,?_⟩
  refine zbb (z:= .slice Option.none 0 0) (v:=hv) (by rfl) (by rfl) (by rfl) (by rfl) (by rw[hve];rfl) ?_
  intro w5 hE5 hs5 ho5
  refine⟨.inr hE5.keep,?_⟩
  simp (disch:=first|omega|assumption|rfl) only[go_sem]
  have hx5:=hx0.trans hE5
  have hx5s:=hx5.size
  refine zaN (hown.ext hx5) ho5.row rfl rfl rfl rfl rfl rfl (vr0) (vr0) (fun q hq=>by rw[List.mem_singleton.1 hq];exact hone) (by rw[List.length_singleton];omega) (by decide) (by omega) ?_
  intro v7 w7 ho7 hE7 hk7 hb7
  refine⟨.inr (hk7.mono fun b _ hb=>by have:=(hown.ge hb).1;show _≤_;omega),?_⟩
  simp (disch:=first|omega|assumption|rfl) only[go_sem,h3]
  have hk7s:=hk7.size
  obtain⟨a7,c7,hv7⟩:=ho7.slice
  have hb3w:w7.heap[b3]? =some (.cells [vi d.ty,nv,.slice au (d.nums.map v32).length cu,.slice at1 (d.texts.map vs).length ct,.slice ar (d.raw.map zak).length cr].toArray 67 (0,0)):=(hk7.block b3 (by omega) (fun h=>by have:=(hown.ge h).1;omega)).trans (Ext.at hx5 hb)
  refine zbQ (P:=Tryz.prog) (t:=65) (j:=1) (l:=[vi d.ty,nv,.slice au (d.nums.map v32).length cu,.slice at1 (d.texts.map vs).length ct,.slice ar (d.raw.map zak).length cr]) hb3w (by simp) (by rw[hv7];rfl) rfl rfl ?_
  intro z hz' hbz hkz
  refine⟨.inl rfl,?_⟩
  simp (disch:=first|omega|assumption|rfl) only[go_sem]
  refine hK _ _ ?_;clear hK hgd;clear K;try clear gd
  have hEz:Ext w1 z:=Keep.to_ext (hE7 w1 (hEA.trans hx5) (by omega)) rfl (fun b hb=>by omega) hkz
  repeat refine c_r ?_
  refine rg2 h4 hi1' ?_
  repeat refine c_r ?_
  exact⟨m - 1,by omega,rfl,i+1,v7,by omega,vq0,(vq1 h1),(vq1 h2),(vq1 h3),hbz,by rw[htk];exact ho7.keep hkz (fun b hb h=>by have:=(ho7.ge hb).1;omega),hEz,by omega⟩
 ·intro hge
  simp only[decide_eq_false_iff_not]at hge
  have hi:i=vals.length:=by omega
  rw[hi,List.take_length]at hown
  obtain⟨na,nc,hnv⟩:=hown.slice
  repeat refine c_r ?_
  refine rq ?_;intro gd K hgd hK
  have d5:=zam (n:=5) hb rfl
  try simp (disch:=first|omega|assumption|rfl) only[go_sem,h3,h2,d5]
  refine zaI (P:=Tryz.prog) (t:=67) (l:=[vi d.ty,nv,.slice au (d.nums.map v32).length cu,.slice at1 (d.texts.map vs).length ct,.slice ar (d.raw.map zak).length cr]) (Ext.at hEA hC) rfl (fun v h=>by
   simp at h
   rcases h with rfl|rfl|rfl|rfl|rfl
   ·rfl
   ·rw[hnv];rfl
   ·rfl
   ·rfl
   ·rfl) rfl rfl ?_
  intro z hz' hbz hkz
  try simp only[go_sem]
  refine hK _ _ ?_;clear hK hgd;clear K;try clear gd
  repeat refine c_r ?_
  refine zae (.inr rfl) Tryz.ntmps31 rfl (zaK (x:=⟨w.heap.size+1,0,Option.none⟩) (k:=5) ((vq1 h2)) rfl rfl (zam hbz rfl) zad) ?_
  have hEz:Ext w z:=Keep.to_ext (hE1.trans hEA) rfl (fun b hb=>by omega) hkz
  have hownz:=hown.keep hkz (fun b hb h=>by have:=(hown.ge hb).1;omega)
  refine⟨hEz,_,nv,rfl,⟨⟨_,_,_,vals,rfl,hownz.row,hvl,hvr,hnu,htx,hrw⟩,fun a n c hv=>?_⟩⟩
  have:=hownz.ge (b:=a.block) (by rw[hv];rfl)
  omega
theorem few_f{n:Nm}(h:few n=true):(∀l∈n,l.length≤1000000000)∧n.length≤1000000000:=by
 simp only[few,Bool.and_eq_true,List.all_eq_true,decide_eq_true_eq]at h
 exact⟨fun l hl=>by have:=h.2 l hl;omega,by omega⟩
theorem DFew_ok{w0 w:World}(hE0:Ext w0 w){cs:List Value}{d:DatL}(hd:DatAt w0 cs d):
  Fn Tryz.prog 29 #[.agg cs.toArray] w (fun v w'=>Ext w w'∧∃b:Bool,v= .bool b∧(b=true→DatF d)):=by
 obtain⟨nm,nu,tx,rw',rfl,⟨vals,⟨an,cn,rfl,hcn,hgn⟩,hvl,hvr⟩,⟨au,cu,rfl,hcu,hgu⟩,⟨at1,ct,rfl,hct,hgt⟩,⟨ar,cr,rfl,hcr,hgr⟩⟩:=hd.ex
 simp only[List.length_map]at hcu hgu hct hgt hcr hgr
 simp only[List.length_map]
 refine enter Tryz.func29 Tryz.ntmps29 rfl rfl ?_
 repeat refine c_r ?_
 refine rg0 ?_
 repeat refine c_r ?_
 refine zas ?_
 intro w1 hE1 hs1 hA
 have p1:zag w1 (some ⟨w.heap.size,1,Option.none⟩)=some (.slice an vals.length cn):=zab hA rfl
 have p2:zag w1 (some ⟨w.heap.size,2,Option.none⟩)=some (.slice au d.nums.length cu):=zab hA rfl
 have p3:zag w1 (some ⟨w.heap.size,3,Option.none⟩)=some (.slice at1 d.texts.length ct):=zab hA rfl
 have p4:zag w1 (some ⟨w.heap.size,4,Option.none⟩)=some (.slice ar d.raw.length cr):=zab hA rfl
 refine zav (Q:=fun e σ' ds' v'=>e= .normal∧ds'=[]∧σ' 1= .pointer (some ⟨w.heap.size,0,Option.none⟩)∧v'=w1∧∃bb,σ' 26= .bool bb∧(bb=false→vals.length≤8∧d.nums.length≤12∧d.texts.length≤40∧d.raw.length≤1100)) ?_ ?_
 ·by_cases hA1:(vals.length:Int)>8
  ·refine rq ?_;intro gd K hgd hK
   have hg4:∀n σ b,zaw gd n σ (some (4,b))=zan (ev n σ (.tmp 9)) b:=(fun n σ b=>by rw[zaf,show gd 4=some 9 from(by rw[hgd];rfl)];rfl);have hg10:∀n σ b,zaw gd n σ (some (10,b))=zan (ev n σ (.tmp 15)) b:=(fun n σ b=>by rw[zaf,show gd 10=some 15 from(by rw[hgd];rfl)];rfl);have hg16:∀n σ b,zaw gd n σ (some (16,b))=zan (ev n σ (.tmp 21)) b:=(fun n σ b=>by rw[zaf,show gd 16=some 21 from(by rw[hgd];rfl)];rfl)
   try simp (disch:=first|omega|assumption|rfl) only[go_sem,p1,Nat.zero_add,decide_eq_true hA1,zbw,↓hg4,↓hg10,↓hg16]
   refine hK _ _ ?_;clear hK hgd;clear K;try clear gd
   exact⟨rfl,rfl,vq0,rfl,_,vr0,fun h=>by cases h⟩
  by_cases hA2:(d.nums.length:Int)>12
  ·refine rq ?_;intro gd K hgd hK
   have hg4:∀n σ b,zaw gd n σ (some (4,b))=zan (ev n σ (.tmp 9)) b:=(fun n σ b=>by rw[zaf,show gd 4=some 9 from(by rw[hgd];rfl)];rfl);have hg10:∀n σ b,zaw gd n σ (some (10,b))=zan (ev n σ (.tmp 15)) b:=(fun n σ b=>by rw[zaf,show gd 10=some 15 from(by rw[hgd];rfl)];rfl);have hg16:∀n σ b,zaw gd n σ (some (16,b))=zan (ev n σ (.tmp 21)) b:=(fun n σ b=>by rw[zaf,show gd 16=some 21 from(by rw[hgd];rfl)];rfl)
   try simp (disch:=first|omega|assumption|rfl) only[go_sem,p1,p2,Nat.zero_add,decide_eq_false hA1,decide_eq_true hA2,zbw,↓hg4,↓hg10,↓hg16]
   refine hK _ _ ?_;clear hK hgd;clear K;try clear gd
   exact⟨rfl,rfl,vq0,rfl,_,vr0,fun h=>by cases h⟩
  by_cases hA3:(d.texts.length:Int)>40
  ·refine rq ?_;intro gd K hgd hK
   have hg4:∀n σ b,zaw gd n σ (some (4,b))=zan (ev n σ (.tmp 9)) b:=(fun n σ b=>by rw[zaf,show gd 4=some 9 from(by rw[hgd];rfl)];rfl);have hg10:∀n σ b,zaw gd n σ (some (10,b))=zan (ev n σ (.tmp 15)) b:=(fun n σ b=>by rw[zaf,show gd 10=some 15 from(by rw[hgd];rfl)];rfl);have hg16:∀n σ b,zaw gd n σ (some (16,b))=zan (ev n σ (.tmp 21)) b:=(fun n σ b=>by rw[zaf,show gd 16=some 21 from(by rw[hgd];rfl)];rfl)
   try simp (disch:=first|omega|assumption|rfl) only[go_sem,p1,p2,p3,Nat.zero_add,decide_eq_false hA1,decide_eq_false hA2,decide_eq_true hA3,zbw,↓hg4,↓hg10,↓hg16]
   refine hK _ _ ?_;clear hK hgd;clear K;try clear gd
   exact⟨rfl,rfl,vq0,rfl,_,vr0,fun h=>by cases h⟩
  by_cases hA4:(d.raw.length:Int)>1100
  ·refine rq ?_;intro gd K hgd hK
   have hg4:∀n σ b,zaw gd n σ (some (4,b))=zan (ev n σ (.tmp 9)) b:=(fun n σ b=>by rw[zaf,show gd 4=some 9 from(by rw[hgd];rfl)];rfl);have hg10:∀n σ b,zaw gd n σ (some (10,b))=zan (ev n σ (.tmp 15)) b:=(fun n σ b=>by rw[zaf,show gd 10=some 15 from(by rw[hgd];rfl)];rfl);have hg16:∀n σ b,zaw gd n σ (some (16,b))=zan (ev n σ (.tmp 21)) b:=(fun n σ b=>by rw[zaf,show gd 16=some 21 from(by rw[hgd];rfl)];rfl)
   try simp (disch:=first|omega|assumption|rfl) only[go_sem,p1,p2,p3,p4,Nat.zero_add,decide_eq_false hA1,decide_eq_false hA2,decide_eq_false hA3,decide_eq_true hA4,zbw,↓hg4,↓hg10,↓hg16]
   refine hK _ _ ?_;clear hK hgd;clear K;try clear gd
   exact⟨rfl,rfl,vq0,rfl,_,vr0,fun h=>by cases h⟩
  ·refine rq ?_;intro gd K hgd hK
   have hg4:∀n σ b,zaw gd n σ (some (4,b))=zan (ev n σ (.tmp 9)) b:=(fun n σ b=>by rw[zaf,show gd 4=some 9 from(by rw[hgd];rfl)];rfl);have hg10:∀n σ b,zaw gd n σ (some (10,b))=zan (ev n σ (.tmp 15)) b:=(fun n σ b=>by rw[zaf,show gd 10=some 15 from(by rw[hgd];rfl)];rfl);have hg16:∀n σ b,zaw gd n σ (some (16,b))=zan (ev n σ (.tmp 21)) b:=(fun n σ b=>by rw[zaf,show gd 16=some 21 from(by rw[hgd];rfl)];rfl)
   try simp (disch:=first|omega|assumption|rfl) only[go_sem,p1,p2,p3,p4,Nat.zero_add,decide_eq_false hA1,decide_eq_false hA2,decide_eq_false hA3,decide_eq_false hA4,zbw,↓hg4,↓hg10,↓hg16]
   refine hK _ _ ?_;clear hK hgd;clear K;try clear gd
   exact⟨rfl,rfl,vq0,rfl,_,vr0,fun _=>⟨by omega,by omega,by omega,by omega⟩⟩
 rintro _ σ1 _ v1 ⟨rfl,rfl,h1,hv1,bb,h26,hbb⟩
 rw[hv1]
 clear hv1 v1
 repeat refine c_r ?_
 refine zcM (t:=bb) ((vq1 h26)) ?_ ?_
 ·intro _
  repeat (first|refine c_r ?_|refine rg0 ?_)
  refine rt0 Tryz.ntmps29 ?_
  exact⟨hE1,false,rfl,fun h=>by cases h⟩
 intro hb
 obtain⟨ln,lu,lt,lr⟩:=hbb hb
 repeat refine c_r ?_
 refine rg0 ?_
 repeat refine c_r ?_
 refine zav (Q:=fun e σ' ds' v'=>ds'=[]∧Ext w1 v'∧((e= .exit 0∧σ' 1= .pointer (some ⟨w.heap.size,0,Option.none⟩)∧∀n∈d.names,few n=true)∨(e= .ret∧σ' 2= .bool false))) ?_ ?_
 ·refine zaR (fun m σ ds A=>ds=[]∧∃(i:Nat),i+m=vals.length∧σ 3=vi i∧σ 1= .pointer (some ⟨w.heap.size,0,Option.none⟩)∧Ext w1 A∧∀j (h:j<d.names.length),j<i→few d.names[j]=true) vals.length ?_ ?_
  ·exact⟨rfl,0,by omega,vr0,(vq1 h1),Keep.refl _ _,fun j h hj=>absurd hj (by omega)⟩
  clear h1
  rintro m σ ds A ⟨rfl,i,him,h3,h1,hEA,hlow⟩
  have q1:=zaa hEA p1
  repeat refine c_r ?_
  refine rg4 h3 h1 q1 Nat.zero_add ?_
  repeat refine c_r ?_
  refine wc0 ?_ ?_
  ·intro hlt
   simp only[decide_eq_true_eq]at hlt
   have hi:i<vals.length:=by omega
   have hi0:(0:Int)≤(i:Int):=by omega
   have hi1:(i:Int)<(vals.length:Int):=by omega
   have hi1':(i:Int)+1=((i+1:Nat):Int):=by push_cast;rfl
   have hgi:=hgn i hi
   obtain⟨xN,rfl⟩:=Option.isSome_iff_exists.1 (zaj hgi)
   have hgi':=zaa (hE0.trans (hE1.trans hEA)) hgi
   have hrow:=hvr i hi (by omega)
   obtain⟨n,hn⟩:∃n,d.names[i]'(by omega)=n:=⟨_,rfl⟩
   rw[hn]at hrow
   obtain⟨hv,hhv⟩:∃hv,vals[i]=hv:=⟨_,rfl⟩
   rw[hhv]at hgi' hrow
   repeat refine c_r ?_
   refine rq ?_;intro gd K hgd hK
   try simp (disch:=first|omega|assumption|rfl) only[go_sem,h3,h1,q1,Nat.zero_add,hi0,hi1,hgi']
   refine Fn.mono (zit A hv n (hrow.ext (hE0.trans (hE1.trans hEA)))) ?_
   rintro _ A2 ⟨rfl,hA2⟩
   try simp only[go_sem]
   refine hK _ _ ?_;clear hK hgd;clear K;try clear gd
   repeat refine c_r ?_
   refine zcM (t:=!few n) (vr0) ?_ ?_
   ·intro _
    repeat refine c_r ?_
    refine rg0 ?_
    repeat refine c_r ?_
    exact⟨rfl,hEA.trans hA2,.inr ⟨rfl,vq0⟩⟩
   ·intro hfn
    repeat refine c_r ?_
    refine rg2 h3 hi1' ?_
    repeat refine c_r ?_
    refine⟨m - 1,by omega,rfl,i+1,by omega,vq0,(vq1 h1),hEA.trans hA2,fun j hj hji=>?_⟩
    by_cases hj2:j=i
    ·subst hj2;rw[hn];simpa using hfn
    ·exact hlow j hj (by omega)
  ·intro hge
   simp only[decide_eq_false_iff_not]at hge
   repeat refine c_r ?_
   refine⟨rfl,hEA,.inl ⟨rfl,(vq1 h1),fun n hn=>?_⟩⟩
   obtain⟨j,hj,rfl⟩:=List.getElem_of_mem hn
   exact hlow j hj (by omega)
 clear h1
 rintro e σ4 _ A ⟨rfl,hEA,⟨rfl,h1,hall⟩| ⟨rfl,h2⟩⟩
 rotate_left
 ·repeat refine c_r ?_
  refine rt1 h2 Tryz.ntmps29 ?_
  exact⟨hE1.trans hEA,false,rfl,fun h=>by cases h⟩
 have q3:=zaa hEA p3
 repeat refine c_r ?_
 refine rg0 ?_
 repeat refine c_r ?_
 refine zav (Q:=fun e σ' ds' v'=>ds'=[]∧v'=A∧((e= .exit 2∧σ' 1= .pointer (some ⟨w.heap.size,0,Option.none⟩)∧∀l∈d.texts,l.length≤300)∨(e= .ret∧σ' 2= .bool false))) ?_ ?_
 ·refine zaR (fun m σ ds B=>ds=[]∧∃(i:Nat),i+m=d.texts.length∧σ 4=vi i∧σ 1= .pointer (some ⟨w.heap.size,0,Option.none⟩)∧B=A∧∀j (h:j<d.texts.length),j<i→d.texts[j].length≤300) d.texts.length ?_ ?_
  ·exact⟨rfl,0,by omega,vr0,(vq1 h1),rfl,fun j h hj=>absurd hj (by omega)⟩
  clear h1
  rintro m σ ds B ⟨rfl,i,him,h4,h1,hB2,hlow⟩
  rw[hB2]
  clear hB2 B
  repeat refine c_r ?_
  refine rg4 h4 h1 q3 Nat.zero_add ?_
  repeat refine c_r ?_
  refine wc0 ?_ ?_
  ·intro hlt
   simp only[decide_eq_true_eq]at hlt
   have hi:i<d.texts.length:=by omega
   have hi0:(0:Int)≤(i:Int):=by omega
   have hi1:(i:Int)<(d.texts.length:Int):=by omega
   have hi1':(i:Int)+1=((i+1:Nat):Int):=by push_cast;rfl
   have hgi:=hgt i hi
   obtain⟨xT,rfl⟩:=Option.isSome_iff_exists.1 (zaj hgi)
   have hgi':=zaa (hE0.trans (hE1.trans hEA)) hgi
   rw[List.getElem_map]at hgi'
   repeat refine c_r ?_
   refine rg7 h4 h1 q3 Nat.zero_add hi0 hi1 hgi' ?_
   repeat refine c_r ?_
   refine wc0 ?_ ?_
   ·intro hgt2
    repeat refine c_r ?_
    refine rg0 ?_
    repeat refine c_r ?_
    exact⟨rfl,rfl,.inr ⟨rfl,vq0⟩⟩
   ·intro hgt2
    simp only[decide_eq_false_iff_not]at hgt2
    repeat refine c_r ?_
    refine rg2 h4 hi1' ?_
    repeat refine c_r ?_
    refine⟨m - 1,by omega,rfl,i+1,by omega,vq0,(vq1 h1),rfl,fun j hj hji=>?_⟩
    by_cases hj2:j=i
    ·subst hj2;omega
    ·exact hlow j hj (by omega)
  ·intro hge
   simp only[decide_eq_false_iff_not]at hge
   repeat refine c_r ?_
   refine⟨rfl,rfl,.inl ⟨rfl,(vq1 h1),fun l hl=>?_⟩⟩
   obtain⟨j,hj,rfl⟩:=List.getElem_of_mem hl
   exact hlow j hj (by omega)
 clear h1
 rintro e σ6 _ v1 ⟨rfl,hv1,⟨rfl,h1,htl⟩| ⟨rfl,h2⟩⟩
 rotate_left
 ·rw[hv1]
  repeat refine c_r ?_
  refine rt1 h2 Tryz.ntmps29 ?_
  exact⟨hE1.trans hEA,false,rfl,fun h=>by cases h⟩
 rw[hv1]
 clear hv1 v1
 repeat (first|refine c_r ?_|refine rg0 ?_)
 refine rt0 Tryz.ntmps29 ?_
 exact⟨hE1.trans hEA,true,rfl,fun _=>⟨fun n hn=>few_f (hall n hn),by omega,by omega,by omega,fun l hl=>by have:=htl l hl;omega,by omega,by omega,⟨by omega,by omega,htl,by omega,hall⟩⟩⟩
def Hz(S:Nat→Prop)(A:World)(P:World→Prop):Prop:=∀X,Keep S A X→P X
theorem Hz.now{S:Nat→Prop}{A:World}{P:World→Prop}(h:Hz S A P):P A:=h A (Keep.refl _ _)
theorem Hz.ext{S:Nat→Prop}{A B:World}{P:World→Prop}(h:Hz S A P)(hE:Ext A B):Hz S B P:=fun X hX=>h X ((hE.mono fun _ _ h=>h.elim).trans hX)
theorem Hz.app{S T S':Nat→Prop}{A B:World}{P:World→Prop}(h:Hz S A P)(hk:Keep T A B)(hT:∀b,b<A.heap.size→T b→S b)(hS:∀b,b<A.heap.size→S' b→S b):Hz S' B P:=fun X hX=>by
 have h1:Keep (fun b=>T b∨S' b) A B:=hk.mono fun _ _ h=> .inl h
 have h2:Keep (fun b=>T b∨S' b) B X:=hX.mono fun _ _ h=> .inr h
 exact h X ((h1.trans h2).mono fun b hb h=>h.elim (hT b hb) (hS b hb))
theorem row_hz{S:Nat→Prop}{A:World}{v:Value}{l:List Value}(hr:Row A v l)(hb:∀a n c,v= .slice (some a) n c→a.block<A.heap.size∧¬S a.block):Hz S A (fun X=>Row X v l):=fun X hX=>
 hr.blocks fun a n c hv=>hX.block _ (hb a n c hv).1 (hb a n c hv).2
theorem goodN_U{n:Nm}(h:zfE n=true):NmT n:=by
 unfold zfE at h
 simp only[Bool.and_eq_true,decide_eq_true_eq]at h
 have h1:=h.2
 exact⟨fun l hl=>by have:=(zcH h1 l hl).2;omega,by have:=zgT h1;omega⟩
theorem few_T{n:Nm}(h:few n=true):NmT n:=by
 simp only[few,Bool.and_eq_true,List.all_eq_true,decide_eq_true_eq]at h
 exact⟨fun l hl=>by have:=h.2 l hl;omega,by omega⟩
theorem fold_T{n:Nm}(h:NmT n):NmT (zbn n):=by
 refine⟨fun l hl=>?_,by unfold zbn;rw[List.length_map];exact h.2⟩
 unfold zbn at hl
 obtain⟨x,hx,rfl⟩:=List.mem_map.1 hl
 have:=h.1 x hx
 simpa [zbJ] using this
section
variable {P : Program} {d : Option Tmp} {ty : TypeId} {ps : String} {af : Array Edge} {g : Option (Nat × Bool)} {ρ : Operand → Value} {w : World} {K : Value → World → Prop}
theorem zer{s:TypeId}{x:Operand}{f:Nat}{fs:Array Field}{fd:Field}{cs:Array Value}{v:Value}(hs:P.underlying s=some (.struct fs))(hf:fs[f]? =some fd)(ha:tyA P fd.type=false)(hu:(P.underlying fd.type).isSome=true)
  (hx:ρ x= .agg cs) (hv:cs[fd.offset]? =some v) (h:K v w):opV P ⟨d,.field s x f,ty,ps,af,g⟩ ρ w K:=by
 show opW P _ ρ w K
 refine zar (s:=Instr.field s (ρ x) f) (w':=w) (v:=v) ?_ h
 obtain⟨u,hu⟩:=Option.isSome_iff_exists.1 hu
 have hi:(isAgg fd.type).run P w= .ok false w:=by
  unfold tyA at ha
  rw[hu]at ha
  cases u<;>first| (cases ha;done)|simp[isAgg,underlying,program,Sem.run,hu]
 have hp:(part fd.type cs fd.offset).run P w= .ok v w:=by
  unfold part
  simp only[Sem.run_bind,hi,Result.andThen_ok,Bool.false_eq_true,if_false,hv,Sem.run_pure]
 unfold Instr.field
 simp[underlying,program,Sem.run,hs,hf,hx,asAgg]
 exact hp
end
theorem zgc{W0 w:World}{b:Nat}{t1 t2:Lab}{q1 q2:Bool}{ov:Value}{o:Nm}{e e1 e2:Int}(hW:WX W0)(h:Rdr W0 w b [(t1,q1),(t2,q2)] ov e)(hl1:t1.length≤1000000)(hl2:t2.length≤1000000)(ho:Row W0 ov (o.map vs))(hoT:NmT o)
  (he1:zaO (if q1=true then zaO e 2 else e) (decP 65535 t1).2=e1) (he2:zaO (if q2=true then zaO e1 2 else e1) (zbT t2 o).2=e2):
  Fn Tryz.prog 106 #[.pointer (some ⟨b,0,Option.none⟩),vi 15] w (fun v w'=>(∃nmv nuv nv,v= .agg #[vi 15,nmv,nuv,.slice Option.none 0 0,.slice Option.none 0 0]∧Own w.heap.size w' 28 nuv [v32 (decP 65535 t1).1]∧Own w.heap.size w' 24 nmv [nv]∧Row w' nv ((zbT t2 o).1.map vs)∧BlkB w.heap.size w' nv)∧Rdr W0 w' b [] ov e2∧Keep (fun i=>i=b) w w'):=by
 have hbl:=h.lt
 have hlow:=h.low
 refine enter Tryz.func106 Tryz.ntmps106 rfl rfl ?_
 refine go trivial ?_
 refine zas ?_
 intro w1 hE1 hs1 hA
 refine rq ?_;intro gd K hgd hK
 try simp only[go_sem]
 refine⟨by kernel_rfl,?_⟩
 rw[show bdV Tryz.prog 33 [(0,vi 15)]=some (.agg #[vi 15,.slice Option.none 0 0,.slice Option.none 0 0,.slice Option.none 0 0,.slice Option.none 0 0]) from by kernel_rfl]
 try simp only[go_sem]
 refine zbp (P:=Tryz.prog) (l:=[vi 15,.slice Option.none 0 0,.slice Option.none 0 0,.slice Option.none 0 0,.slice Option.none 0 0]) rfl (zbS _ _ _ _ _ rfl rfl rfl rfl) rfl rfl ?_
 intro w2 hE2 hs2 hB2
 try simp only[go_sem]
 refine hK _ _ ?_;clear hK hgd;clear K;try clear gd
 rw[hs1]at hB2
 simp only[hs1]
 have hR2:=(h.extx hE1).extx hE2
 refine go trivial ?_
 refine rc trivial (zdw hR2 15) ?_
 rintro _ w3 ⟨rfl,hE3⟩
 rw[show zew 15 ([(t1,q1),(t2,q2)]:List (Lab×Bool)).length=true from rfl]
 have d1:decide ((15:Int)=1)=false:=rfl
 have d2:decide ((15:Int)=28)=false:=rfl
 have d3:decide ((15:Int)=16)=false:=rfl
 have d4:decide ((15:Int)=15)=true:=rfl
 refine rgo (an4 d1 d2 d3 d4) ?_
 have hR3:=hR2.extx hE3
 have hs3:=hE3.size
 have hB3:=Ext.at hE3 hB2
 obtain⟨P,hP⟩:∃P,w.heap.size+1=P:=⟨_,rfl⟩
 rw[hP]at hB3 ⊢
 have hP3:P<w3.heap.size:=(Array.getElem?_eq_some_iff.1 hB3).1
 have q3:zag w3 (some ⟨P,2,Option.none⟩)=some (.slice Option.none 0 0):=zaG (j:=2) hB3 rfl
 have hdl:=zfK 65535 t1
 refine zav (Q:=fun e' σ' ds' v'=>e'= .normal∧ds'=[]∧(σ' 0= .pointer (some ⟨b,0,Option.none⟩)∧σ' 4= .pointer (some ⟨w.heap.size,0,Option.none⟩)∧σ' 5= .pointer (some ⟨P,0,Option.none⟩))∧Rdr W0 v' b [(t2,q2)] ov e1∧Keep (fun i=>i=b∨i=P) w3 v'∧∃nuv,v'.heap[P]? =some (.cells [vi 15,.slice Option.none 0 0,nuv,.slice Option.none 0 0,.slice Option.none 0 0].toArray 33 (0,0))∧Own w3.heap.size v' 28 nuv [v32 (decP 65535 t1).1]) ?_ ?_
 ·refine zaY (fun i=>i==7) [(0,true),(1,true),(2,true),(3,false),(4,false),(5,false),(6,true),(7,false)] ((fun i=>i=b)) mixed (by kernel_rfl) ?_;intro gd K x hgd hx hxe hK;have hx0:=zaW hxe;clear hxe
  have q3x:=zaa hx0 q3
  have hsx:=hx0.size
  simp (disch:=first|omega|assumption|rfl) only[go_sem,q3x,Nat.zero_add]
  refine⟨fun a ha hb'=>by cases ha;dsimp only at hb';omega,?_⟩
  refine Fn.mono (num_ok hW (hR3.extx hx0) (by simp) (by omega) 65535 (by decide)) ?_
  rw[he1]
  rintro _ y1 ⟨rfl,hR1,hk1⟩
  refine⟨.inr hk1,?_⟩
  simp (disch:=first|omega|assumption|rfl) only[go_sem]
  refine zbb (z:=v32 0) rfl rfl rfl rfl rfl ?_
  intro y2 hy2 hys2 hyo
  refine⟨.inr hy2.keep,?_⟩
  simp (disch:=first|omega|assumption|rfl) only[go_sem]
  have hsy1:=hk1.size
  have hsy2:=hy2.size
  refine zaN (B:=w3.heap.size) (e:=28) (Own.nil _ _ _) hyo.row rfl rfl rfl rfl rfl rfl (vr0) (vr0) (fun q hq=>by rw[List.mem_singleton.1 hq];rfl) (by simp) (by decide) (by omega) ?_
  intro sv' y3 hown3 hX3 hK3 hb3'
  refine⟨.inr (hK3.mono fun i _ h=>by cases h),?_⟩
  simp (disch:=first|omega|assumption|rfl) only[go_sem,Nat.zero_add]
  have hsK:=hK3.size
  have hBP3:y3.heap[P]? =_:=(hK3.block P (by omega) (fun h=>by cases h)).trans ((hy2.block P (by omega) (fun h=>h)).trans ((hk1.block P (by omega) (by omega)).trans (Ext.at hx0 hB3)))
  refine zbQ (P:=Tryz.prog) (t:=30) (j:=2) (u:=sv') hBP3 (by simp) (by obtain⟨a,c,rfl⟩:=hown3.slice;rfl) rfl rfl ?_
  intro z hzs hBz hkz
  refine⟨.inl rfl,?_⟩
  simp (disch:=first|omega|assumption|rfl) only[go_sem]
  refine hK _ _ ?_;clear hK hgd;clear K;try clear gd
  simp only[List.set_cons_zero,List.set_cons_succ]at hBz
  have ha:Keep (fun i=>i=b∨i=P) w3 y2:=((hx0.mono fun _ _ h=>h.elim).trans (hk1.mono fun _ _ h=> .inl h)).trans (hy2.mono fun _ _ h=>h.elim)
  exact⟨rfl,rfl,⟨vr0,vr0,vr0⟩,((hR1.extx hy2).keep hK3 fun i hi=>by cases hi).keep hkz fun i hi=>by omega,(ha.own hK3 fun i hi h=>by cases h).trans (hkz.mono fun _ _ h=> .inr h),sv',hBz,hown3.keep hkz fun i hi hs=>by have:=(hown3.ge hi).1;omega⟩
 rintro _ σ1 _ w4 ⟨rfl,rfl,⟨s0,s4,s5⟩,hR4,hk4,nuv,hB4,hnu⟩
 have hs4:=hk4.size
 obtain⟨na,nc,hnuv⟩:=hnu.slice
 have q4:zag w4 (some ⟨P,1,Option.none⟩)=some (.slice Option.none 0 0):=zaG (j:=1) hB4 rfl
 refine go (an3 s0 s4 s5) ?_
 refine zav (Q:=fun e' σ' ds' v'=>e'= .normal∧ds'=[]∧(σ' 4= .pointer (some ⟨w.heap.size,0,Option.none⟩)∧σ' 5= .pointer (some ⟨P,0,Option.none⟩))∧Rdr W0 v' b [] ov e2∧Keep (fun i=>i=b∨i=P) w4 v'∧∃nmv nv,v'.heap[P]? =some (.cells [vi 15,nmv,nuv,.slice Option.none 0 0,.slice Option.none 0 0].toArray 33 (0,0))∧Own w4.heap.size v' 24 nmv [nv]∧Row v' nv ((zbT t2 o).1.map vs)∧BlkB w4.heap.size v' nv∧one nv=true) ?_ ?_
 ·refine zaY (fun i=>i==7) [(0,true),(1,true),(2,true),(3,false),(4,false),(5,false),(6,true),(7,false)] ((fun i=>i=b)) mixed (by kernel_rfl) ?_;intro gd K x hgd hx hxe hK;have hx0:=zaW hxe;clear hxe
  have q4x:=zaa hx0 q4
  have hsx:=hx0.size
  simp (disch:=first|omega|assumption|rfl) only[go_sem,s0,s5,q4x,Nat.zero_add]
  refine⟨fun a ha hb'=>by cases ha;dsimp only at hb';omega,?_⟩
  refine Fn.mono (zhF (hR4.extx hx0) (by simp) (by omega) ho hoT) ?_
  rw[he2]
  rintro nv y1 ⟨hrow,hbk,hR1,hk1⟩
  refine⟨.inr hk1,?_⟩
  obtain⟨nva,nvc,hnve,_⟩:=id hrow
  simp (disch:=first|omega|assumption|rfl) only[go_sem]
  refine zbb (z:= .slice Option.none 0 0) (v:=nv) rfl rfl rfl rfl (by rw[hnve];rfl) ?_
  intro y2 hy2 hys2 hyo
  refine⟨.inr hy2.keep,?_⟩
  simp (disch:=first|omega|assumption|rfl) only[go_sem]
  have hsy1:=hk1.size
  have hsy2:=hy2.size
  refine zaN (B:=w4.heap.size) (e:=24) (Own.nil _ _ _) hyo.row rfl rfl rfl rfl rfl rfl (vr0) (vr0) (fun q hq=>by rw[List.mem_singleton.1 hq,hnve];rfl) (by simp) (by decide) (by omega) ?_
  intro sv' y3 hown3 hX3 hK3 hb3'
  refine⟨.inr (hK3.mono fun i _ h=>by cases h),?_⟩
  simp (disch:=first|omega|assumption|rfl) only[go_sem,s5,Nat.zero_add]
  have hsK:=hK3.size
  have hBP3:y3.heap[P]? =_:=(hK3.block P (by omega) (fun h=>by cases h)).trans ((hy2.block P (by omega) (fun h=>h)).trans ((hk1.block P (by omega) (by omega)).trans (Ext.at hx0 hB4)))
  refine zbQ (P:=Tryz.prog) (t:=29) (j:=1) (u:=sv') hBP3 (by simp) (by obtain⟨a,c,rfl⟩:=hown3.slice;rfl) rfl rfl ?_
  intro z hzs hBz hkz
  refine⟨.inl rfl,?_⟩
  simp (disch:=first|omega|assumption|rfl) only[go_sem]
  refine hK _ _ ?_;clear hK hgd;clear K;try clear gd
  simp only[List.set_cons_zero,List.set_cons_succ]at hBz
  have ha:Keep (fun i=>i=b∨i=P) w4 y2:=((hx0.mono fun _ _ h=>h.elim).trans (hk1.mono fun _ _ h=> .inl h)).trans (hy2.mono fun _ _ h=>h.elim)
  have hrz:Row z nv ((zbT t2 o).1.map vs):=by
   refine Row.blocks (w:=y3) (Row.blocks (w:=y2) (hrow.ext hy2) fun a n' c hv=>?_) fun a n' c hv=>?_
   ·have h2:=hbk a n' c hv
    exact hK3.block _ (by omega) (fun hh=>by cases hh)
   ·have h2:=hbk a n' c hv
    exact hkz.block _ (by omega) (by omega)
  refine⟨rfl,rfl,⟨(vq1 s4),(vq1 s5)⟩,((hR1.extx hy2).keep hK3 fun i hi=>by cases hi).keep hkz fun i hi=>by omega,(ha.own hK3 fun i hi h=>by cases h).trans (hkz.mono fun _ _ h=> .inr h),sv',nv,hBz,hown3.keep hkz fun i hi hs=>by have:=(hown3.ge hi).1;omega,hrz,fun a n' c hv=>?_,by rw[hnve];rfl⟩
  have h2:=hbk a n' c hv
  omega
 clear s0 s4 s5
 rintro _ σ2 _ w5 ⟨rfl,rfl,⟨s4,s5⟩,hR5,hk5,nmv,nv,hB5,hnm,hnr,hnb,hn1⟩
 obtain⟨ma,mc,hnmv⟩:=hnm.slice
 have hs5:=hk5.size
 have q5:=zam (n:=5) hB5 rfl
 refine go (an2 s4 s5) ?_
 refine rq ?_;intro gd K hgd hK
 try simp (disch:=first|omega|assumption|rfl) only[go_sem,s4,s5,q5]
 have hA5:w5.heap[w.heap.size]? =_:=(hk5.block _ (by omega) (by omega)).trans ((hk4.block _ (by omega) (by omega)).trans (Ext.at (hE2.trans hE3) hA))
 refine zaI (P:=Tryz.prog) (t:=33) (l:=[vi 15,nmv,nuv,.slice Option.none 0 0,.slice Option.none 0 0]) hA5 rfl (zbS _ _ _ _ _ (by rw[hnmv];rfl) (by rw[hnuv];rfl) rfl rfl) rfl rfl ?_
 intro w6 hs6 hB6 hk6
 try simp only[go_sem]
 refine hK _ _ ?_;clear hK hgd;clear K;try clear gd
 refine go trivial ?_
 refine zae (.inr rfl) Tryz.ntmps106 rfl (zaK (x:=⟨w.heap.size,0,Option.none⟩) (k:=5) ((vr1 s4)) rfl rfl (zam hB6 rfl) zad) ?_
 have hE13:=(hE1.trans hE2).trans hE3
 refine⟨⟨nmv,nuv,nv,rfl,((hnu.keep hk5 fun i hi hs=>by have:=hnu.ge hi;omega).keep hk6 fun i hi hs=>by have:=hnu.ge hi;omega).mono (by omega),(hnm.keep hk6 fun i hi hs=>by have:=(hnm.ge hi).1;omega).mono (by omega),hnr.blocks fun a n' c hv=>hk6.block _ (hnb a n' c hv).2 (by have:=(hnb a n' c hv).1;omega),(hnb.ext hk6.size).mono (by omega)⟩,hR5.keep hk6 fun i hi=>by omega,?_⟩
 exact((((hE13.mono fun _ _ h=>h.elim):Keep (fun i=>i=b) w w3).own hk4 fun i hi h=>by omega).own hk5 fun i hi h=>by omega).own hk6 fun i hi h=>by omega
theorem zaS(w:World):Row w (.slice Option.none 0 0) []:=(Own.nil 0 w 0).row
def rawD(T:Int)(bs:List UInt8):DatL:=⟨T,[],[],[],bs⟩
theorem raw_at{w:World}{rv:Value}{T:Int}{bs:List UInt8}(h:Row w rv (bs.map zak)):DatAt w [vi T,.slice Option.none 0 0,.slice Option.none 0 0,.slice Option.none 0 0,rv] (rawD T bs):=⟨_,_,_,_,rfl,za4 w,zaS w,zaS w,h⟩
theorem raw_T{T:Int}{bs:List UInt8}(h:bs.length≤2000):DatT (rawD T bs):=⟨⟨(fun n hn=>by cases hn),(by simp[rawD]),(by simp[rawD]),(fun n hn=>by cases hn),(by simp[rawD]),(fun n hn=>by cases hn),h⟩,(by simp[rawD])⟩
theorem any_ok{W0 w:World}{b:Nat}{t0 t:Lab}{q0:Bool}{ws:List (Lab×Bool)}{ov:Value}{n:Nat}{bs:List UInt8}(hW:WX W0)(h:Rdr W0 w b ((t0,q0)::(t,false)::ws) ov 0)(T:Int)(hT:(zat T).2.2.2≠0)(hl:ws.length≤1000)(ht:t.length≤1000000)(hn:decP 4294967295 t=(n,0))(hn2:n≤1024)(hwq:∀x∈ws,x.2=false∧x.1.length≤1000000)(htr:Lib.trimS (catW ws) digs16=[])(hlen:(catW ws).length=2*n)(hp:Pairs (catW ws) bs):
  Fn Tryz.prog 105 #[.pointer (some ⟨b,0,Option.none⟩),vi T] w (fun v w'=>(∃rv,v= .agg #[vi T,.slice Option.none 0 0,.slice Option.none 0 0,.slice Option.none 0 0,rv]∧Own w.heap.size w' 5 rv (bs.map zak))∧Rdr W0 w' b [] ov (zaX (rawD T bs))∧Keep (fun i=>i=b) w w'):=by
 have hbl:=h.lt
 have hlow:=h.low
 obtain⟨wv,hb,hr⟩:=h.at'
 obtain⟨a,c,rfl,hc,hg⟩:=hr.open
 rw[List.length_cons]at hc
 have hdr:=hr.drop (m:=1) (by simp)
 rw[List.drop_one,List.tail_cons,List.length_cons]at hdr
 have l1:(1:Int)≤((((t,false)::ws).length+1:Nat):Int):=by omega
 have l2:(1:Int)≤(c:Int):=by omega
 have hbsl:bs.length=n:=by have:=hp.1;omega
 refine enter Tryz.func105 Tryz.ntmps105 rfl rfl ?_
 refine go trivial ?_
 refine zas ?_
 intro w1 hE1 hs1 hA
 have hb1:=Ext.at hE1 hb
 have c0:zag w1 (some ⟨b,0,Option.none⟩)=some (.slice a (((t,false)::ws).length+1) c):=zab hb1 rfl
 refine rq ?_;intro gd K hgd hK
 try simp (disch:=first|omega|assumption|rfl) only[go_sem,c0,l1,l2,Nat.zero_add]
 refine zaB (P:=Tryz.prog) rfl rfl rfl hb1 (by simp) (by simp) ?_
 intro w2 hs2 hb2 hk2
 try simp only[go_sem]
 refine hK _ _ ?_;clear hK hgd;clear K;try clear gd
 have hR2:Rdr W0 w2 b ((t,false)::ws) ov 0:=⟨Keep.to_ext (h.ext.trans hE1) rfl (fun i hi=>by omega) hk2,h.low,⟨_,hb2,hdr⟩,h.one⟩
 refine go trivial ?_
 refine rq ?_;intro gd K hgd hK
 try simp only[go_sem]
 refine⟨by kernel_rfl,?_⟩
 rw[show bdV Tryz.prog 33 [(0,vi T)]=some (.agg #[vi T,.slice Option.none 0 0,.slice Option.none 0 0,.slice Option.none 0 0,.slice Option.none 0 0]) from by kernel_rfl]
 try simp only[go_sem]
 refine zbp (P:=Tryz.prog) (l:=[vi T,.slice Option.none 0 0,.slice Option.none 0 0,.slice Option.none 0 0,.slice Option.none 0 0]) rfl (zbS _ _ _ _ _ rfl rfl rfl rfl) rfl rfl ?_
 intro w3 hE3 hs3 hB3
 try simp only[go_sem]
 refine hK _ _ ?_;clear hK hgd;clear K;try clear gd
 have hw2:w2.heap.size=w.heap.size+1:=by omega
 rw[hw2]at hB3
 simp only[hw2]
 have hR3:=hR2.extx hE3
 refine go trivial ?_
 refine rq ?_;intro gd K hgd hK
 try simp only[go_sem]
 refine Fn.mono (zhC w3 T) ?_
 rintro _ w4 ⟨rfl,hE4⟩
 unfold zd0
 try simp only[go_sem]
 refine zer (cs:=#[vi (zat T).1,vi (zat T).2.1,vi (zat T).2.2.1,vi (zat T).2.2.2]) rfl rfl rfl rfl (vr0) rfl ?_
 have d1:decide ((zat T).2.2.2=0)=false:=decide_eq_false hT
 try simp (disch:=first|omega|assumption|rfl) only[go_sem,d1]
 refine hK _ _ ?_;clear hK hgd;clear K;try clear gd
 have hR4:=hR3.extx hE4
 obtain⟨wv4,hb4,hr4⟩:=hR4.at'
 obtain⟨a4,k4,rfl,_,_⟩:=hr4.open
 have c4:zag w4 (some ⟨b,0,Option.none⟩)=some (.slice a4 ((t,false)::ws).length k4):=zab hb4 rfl
 have d2:decide ((((t,false)::ws).length:Int)=0)=false:=decide_eq_false (by rw[List.length_cons];omega)
 refine go (an4 d1 c4 d2 (Nat.zero_add 0)) ?_
 have hs4:=hE4.size
 refine rq ?_;intro gd K hgd hK
 try simp only[go_sem]
 refine Fn.mono (zgD hW hR4 hl ht hn hn2 hwq htr hlen hp) ?_
 rintro rv w5 ⟨hown,hR5,hk5⟩
 obtain⟨ra,rc',hrv⟩:=hown.slice
 have hs5:=hk5.size
 have hB5:=(hk5.block (w.heap.size+1) (by omega) (by omega)).trans (Ext.at hE4 hB3)
 try simp (disch:=first|omega|assumption|rfl) only[go_sem,Nat.zero_add]
 refine zbQ (P:=Tryz.prog) (t:=31) (j:=4) (u:=rv) hB5 (by simp) (by rw[hrv];rfl) rfl rfl ?_
 intro w6 hs6 hB6 hk6
 try simp only[go_sem]
 refine hK _ _ ?_;clear hK hgd;clear K;try clear gd
 simp only[List.set_cons_zero,List.set_cons_succ]at hB6
 have hR6:Rdr W0 w6 b [] ov 0:=hR5.keep hk6 fun i hi=>by omega
 have hown6:=hown.keep hk6 fun i hi hs=>by have:=(hown.ge hi).1;omega
 obtain⟨wv6,hb6,_⟩:=hR6.at'
 have c6:zag w6 (some ⟨b,2,Option.none⟩)=some (vi 0):=zab hb6 rfl
 have q6:=zam (n:=5) hB6 rfl
 have ez:decide ((0:Int)=0)=true:=rfl
 refine go (an3 c6 ez (Nat.zero_add 2)) ?_
 refine rc q6 (zfq (cs:=[vi T,.slice Option.none 0 0,.slice Option.none 0 0,.slice Option.none 0 0,rv]) (raw_at hown6.row) (raw_T (by omega))) ?_
 rintro _ w7 ⟨rfl,hE7⟩
 refine rd trivial (zbW (hR6.extx hE7) (zaX (rawD T bs))) ?_
 rw[show zaO 0 (zaX (rawD T bs))=zaX (rawD T bs) from rfl]
 rintro _ w8 ⟨hR8,hk8⟩
 have hs7:=hE7.size
 have hs8:=hk8.size
 refine rgo trivial ?_
 have hB8:=(hk8.block (w.heap.size+1) (by omega) (by omega)).trans (Ext.at hE7 hB6)
 have q8:=zam (n:=5) hB8 rfl
 refine rq ?_;intro gd K hgd hK
 try simp (disch:=first|omega|assumption|rfl) only[go_sem,q8]
 have hk36:Keep (fun i=>i=b∨i=w.heap.size+1) w3 w8:=(((hE4.mono fun _ _ h=>h.elim).trans (hk5.mono fun _ _ h=> .inl h)).trans (hk6.mono fun _ _ h=> .inr h)).trans ((hE7.mono fun _ _ h=>h.elim).trans (hk8.mono fun _ _ h=> .inl h))
 have hA8:w8.heap[w.heap.size]? =_:=(hk36.block _ (by omega) (by omega)).trans (Ext.at hE3 ((hk2.block _ (by omega) (by omega)).trans hA))
 refine zaI (P:=Tryz.prog) (t:=33) (l:=[vi T,.slice Option.none 0 0,.slice Option.none 0 0,.slice Option.none 0 0,rv]) hA8 rfl (zbS _ _ _ _ _ rfl rfl rfl (by rw[hrv];rfl)) rfl rfl ?_
 intro w9 hs9 hB9 hk9
 try simp only[go_sem]
 refine hK _ _ ?_;clear hK hgd;clear K;try clear gd
 refine go trivial ?_
 refine zae (.inr rfl) Tryz.ntmps105 rfl (zaK (x:=⟨w.heap.size,0,Option.none⟩) (k:=5) (vr0) rfl rfl (zam hB9 rfl) zad) ?_
 refine⟨⟨rv,rfl,((((hown6.ext hE7).keep hk8 fun i hi hs=>by have:=(hown6.ge hi).1;omega)).keep hk9 fun i hi hs=>by have:=(hown6.ge hi).1;omega).mono (by omega)⟩,hR8.keep hk9 fun i hi=>by omega,?_⟩
 have hk03:Keep (fun i=>i=b) w w3:=((hE1.mono fun _ _ h=>h.elim).trans hk2).trans (hE3.mono fun _ _ h=>h.elim)
 exact(hk03.own hk36 fun i hi h=>by omega).own hk9 fun i hi h=>by omega
section
variable {P : Program} {d : Option Tmp} {ty : TypeId} {ps : String} {af : Array Edge} {g : Option (Nat × Bool)} {ρ : Operand → Value} {w : World} {K : Value → World → Prop}
end
section
variable {P : Program} {d : Option Tmp} {ty : TypeId} {ps : String} {af : Array Edge} {g : Option (Nat × Bool)} {ρ : Operand → Value} {w : World} {K : Value → World → Prop}
theorem zga{e:TypeId}{cs:Array Value}{i:Nat}{v:Value}(he:(isAgg e).run P w= .ok false w)(hv:cs[i]? =some v):(part e cs i).run P w= .ok v w:=by
 unfold part
 simp only[Sem.run_bind,he,Result.andThen_ok,Bool.false_eq_true,if_false,hv,Sem.run_pure]
theorem eqIn_wd{t:TypeId}{f1 f2:Field}(ht:P.underlying t=some (.struct #[f1,f2]))(h1n:f1.name≠ "_")(h2n:f2.name≠ "_")(o1:f1.offset=0)(o2:f2.offset=1)(hs:P.stoodInHeld t=false)(h1:P.underlying f1.type=some .string)(h2:P.underlying f2.type=some .bool)(n:Nat)(a a':Lab)(b b':Bool):
  (Op.equalIn (n+2) t (.agg #[vs a,.bool b]) (.agg #[vs a',.bool b'])).run P w= .ok (decide ((a,b)=(a',b'))) w:=by
 have k1:(isAgg f1.type).run P w= .ok false w:=by simp[isAgg,underlying,program,Sem.run,h1]
 have k2:(isAgg f2.type).run P w= .ok false w:=by simp[isAgg,underlying,program,Sem.run,h2]
 have p1:∀x y:Value,(part f1.type #[x,y] 0).run P w= .ok x w:=fun _ _=>zga k1 rfl
 have p2:∀x y:Value,(part f2.type #[x,y] 1).run P w= .ok y w:=fun _ _=>zga k2 rfl
 have q1:∀a a':Lab,(Op.equalIn (n+1) f1.type (vs a) (vs a')).run P w= .ok (decide (a=a')) w:=fun a a'=>by
  have h0:((⟨a.toArray⟩:ByteArray)==⟨a'.toArray⟩)=decide (a=a'):=by
   show ByteArray.beq _ _=_
   unfold ByteArray.beq
   by_cases h:a=a'
   ·subst h;simp
   ·rw[decide_eq_false h]
    simp[h]
  simp[Op.equalIn,underlying,program,Sem.run,h1,vs,h0]
 have q2:∀b b':Bool,(Op.equalIn (n+1) f2.type (.bool b) (.bool b')).run P w= .ok (decide (b=b')) w:=fun b b'=>by
  cases b<;>cases b'<;>simp[Op.equalIn,underlying,program,Sem.run,h2]
 have hu:(underlying t).run P w= .ok (.struct #[f1,f2]) w:=by simp[underlying,program,Sem.run,ht]
 have hp:(program:Sem Program).run P w= .ok P w:=by simp[program,Sem.run]
 rw[Op.equalIn]
 simp only[Sem.run_bind,hu,hp,Result.andThen_ok,hs,Bool.false_eq_true,if_false]
 by_cases c1:a=a'
 ·by_cases c2:b=b'
  ·simp[List.forIn_cons,Sem.run_bind,p1,p2,q1,q2,c1,c2,h1n,h2n,o1,o2]
  ·simp[List.forIn_cons,Sem.run_bind,p1,p2,q1,q2,c1,c2,h1n,h2n,o1,o2]
 ·simp[List.forIn_cons,Sem.run_bind,p1,p2,q1,q2,c1,h1n,h2n,o1,o2]
theorem op_eqS{t yt:TypeId}{x y:Operand}{f1 f2:Field}{a a':Lab}{b b':Bool}(ht:P.underlying t=some (.struct #[f1,f2]))(h1n:f1.name≠ "_")(h2n:f2.name≠ "_")(o1:f1.offset=0)(o2:f2.offset=1)(hs:P.stoodInHeld t=false)(h1:P.underlying f1.type=some .string)(h2:P.underlying f2.type=some .bool)(hg:P.eqGuardType P.depth t=false)
  (hx:ρ x= .agg #[vs a,.bool b]) (hy:ρ y= .agg #[vs a',.bool b']) (h:K (.bool (decide ((a,b)=(a',b')))) w):
  opW P ⟨d,.binOp .eql t x y yt,ty,ps,af,g⟩ ρ w K:=by
 have e2:(Op.equal t (.agg #[vs a,.bool b]) (.agg #[vs a',.bool b'])).run P w= .ok (decide ((a,b)=(a',b'))) w:=eqIn_wd ht h1n h2n o1 o2 hs h1 h2 9998 a a' b b'
 have hr:(do eqGuard .eql t x y (.agg #[vs a,.bool b]) (.agg #[vs a',.bool b']);binOp .eql t (.agg #[vs a,.bool b]) (.agg #[vs a',.bool b']):Sem Value).run P w= .ok (.bool (decide ((a,b)=(a',b')))) w:=by
  simp[eqGuard,binOp,e2,program,Sem.run,hg]
 have:=zar (P:=P) (K:=K) hr h
 rw[←hx,←hy]at this
 exact this
end
def zbx(ws:List (Lab×Bool)):Bool:=match ws with|x::_=>decide (x=([92,35],false))| []=>false
theorem zee{w:World}{t:Int}{wv:Value}{oa:Option Addr}{on oc:Nat}{ws:List (Lab×Bool)}{e:Int}{G:Nat→List Value→World→Prop}(ht1:1≤t)(ht2:t≤65535)(hr:Rows 2 WdC w wv ws)
  (hG:∀B cs x y S,G B cs x→Keep S x y→(∀i,S i→i<B)→G B cs y)
  (hc:∀(b:Nat) (w1:World),Rdr w w1 b ws (.slice oa on oc) 0→Fn Tryz.prog (if zbx ws=true then 105 else 106) #[.pointer (some ⟨b,0,Option.none⟩),vi t] w1 (fun v w'=>(∃cs:List Value,v= .agg cs.toArray∧cs.length=5∧(∀x∈cs,one x=true)∧G w1.heap.size cs w')∧Rdr w w' b [] (.slice oa on oc) e∧Keep (fun i=>i=b) w1 w')):
  Fn Tryz.prog 38 #[vi t,wv,.slice oa on oc] w (fun v w'=>Ext w w'∧(e=0→∃cs:List Value,∃B,v= .tuple #[.agg cs.toArray,vi 0]∧w.heap.size≤B∧G B cs w')∧(¬e=0→v= .tuple #[.agg ([vi 0,.slice Option.none 0 0,.slice Option.none 0 0,.slice Option.none 0 0,.slice Option.none 0 0]:List Value).toArray,vi e])):=by
 obtain⟨wa,wc,rfl,hcap,hget⟩:=hr.open
 refine enter Tryz.func38 Tryz.ntmps38 rfl rfl ?_
 refine go trivial ?_
 refine zas ?_
 intro w1 hE1 hs1 hA
 refine rq ?_;intro gd K hgd hK
 try simp only[go_sem]
 refine⟨by kernel_rfl,?_⟩
 rw[show bdV Tryz.prog 162 [(0,.slice wa ws.length wc),(1,.slice oa on oc)]=some (.agg #[.slice wa ws.length wc,.slice oa on oc,vi 0]) from by kernel_rfl]
 try simp only[go_sem]
 refine hK _ _ ?_;clear hK hgd;clear K;try clear gd
 refine zas ?_
 intro w2 hE2 hs2 hB
 rw[hs1]at hB
 simp only[hs1]
 refine go trivial ?_
 refine zas ?_
 intro w3 hE3 hs3 hC
 have hw2:w2.heap.size=w.heap.size+2:=by omega
 rw[hw2]at hC
 simp only[hw2]
 have hR3:Rdr w w3 (w.heap.size+1) ws (.slice oa on oc) 0:=⟨(hE1.trans hE2).trans hE3,by omega,⟨_,Ext.at hE3 hB,hr⟩,rfl⟩
 refine rgg [(2,20)] (an2 (decide_eq_false (show¬t<1 by omega)) (decide_eq_false (show¬65535<t by omega))) ?_
 refine go trivial ?_
 refine zav (Q:=fun e' σ' ds' v'=>e'= .normal∧ds'=[]∧v'=w3∧(σ' 0=vi t∧σ' 6= .pointer (some ⟨w.heap.size,0,Option.none⟩)∧σ' 8= .pointer (some ⟨w.heap.size+1,0,Option.none⟩)∧σ' 9= .pointer (some ⟨w.heap.size+2,0,Option.none⟩))∧σ' 25= .bool (zbx ws)) ?_ ?_
 ·cases ws with
  |nil=>
   refine rgg [(3,29)] (show decide ((0:Int)<(([]:List (Lab×Bool)).length:Int))=false from rfl) ?_
   exact⟨rfl,rfl,rfl,⟨vr0,vr0,vr0,vr0⟩,vr0⟩
  |cons x rest=>
   obtain⟨tx,qx⟩:=x
   obtain⟨cs0,g0,hcs⟩:=hget 0 (by simp)
   simp only[List.getElem_cons_zero,Nat.zero_mul,zaH]at g0 hcs
   unfold WdC at hcs
   subst hcs
   have g:=zah hR3.ext g0
   obtain⟨xa,rfl⟩:∃x,wa=some x:=by
    cases wa with
    |none=>cases g0
    |some x=>exact⟨x,rfl⟩
   have l0:decide ((0:Int)<((((tx,qx)::rest).length:Nat):Int))=true:=decide_eq_true (by rw[List.length_cons];omega)
   have l0':(0:Int)<((((tx,qx)::rest).length:Nat):Int):=by rw[List.length_cons];omega
   refine rq ?_;intro gd K hgd hK
   have hg3:∀n σ b,zaw gd n σ (some (3,b))=zan (ev n σ (.tmp 29)) b:=(fun n σ b=>by rw[zaf,show gd 3=some 29 from(by rw[hgd];rfl)];rfl)
   try simp (disch:=first|omega|assumption|rfl) only[go_sem,l0,l0',Int.toNat_zero,Nat.zero_mul,zaH,g,↓hg3]
   refine⟨by kernel_rfl,?_⟩
   rw[show bdV Tryz.prog 141 [(0,vs [92,35])]=some (.agg #[vs [92,35],.bool false]) from by kernel_rfl]
   try simp (disch:=first|omega|assumption|rfl) only[go_sem,l0,↓hg3]
   refine op_eqS (a:=tx) (b:=qx) (a':=[92,35]) (b':=false) rfl (by decide) (by decide) rfl rfl (by kernel_rfl) rfl rfl (by kernel_rfl) (vr0) (vr0) ?_
   try simp (disch:=first|omega|assumption|rfl) only[go_sem,l0,↓hg3]
   refine hK _ _ ?_;clear hK hgd;clear K;try clear gd
   exact⟨rfl,rfl,rfl,⟨vr0,vr0,vr0,vr0⟩,vr0⟩
 rintro _ σ1 _ w1 ⟨rfl,rfl,rfl,⟨s0,s6,s8,s9⟩,s25⟩
 have hcb:=hc _ _ hR3
 cases hm:zbx ws
 all_goals
  rw[hm]at s25 hcb
  first
   |rw[if_pos rfl]at hcb
   |rw[if_neg (by decide)]at hcb
  refine go (an5 s0 s6 s8 s9 s25) ?_
  refine rq ?_;intro gd K hgd hK
  try simp (disch:=first|omega|assumption|rfl) only[go_sem,s0,s6,s8,s9]
  refine Fn.mono hcb ?_
  rintro _ w4 ⟨⟨cs,rfl,hcs,hcs1,hg4⟩,hR4,hk4⟩
  have hs4:=hk4.size
  have hC4:=(hk4.block (w.heap.size+2) (by omega) (by omega)).trans hC
  try simp (disch:=first|omega|assumption|rfl) only[go_sem,s9]
  refine zaI (P:=Tryz.prog) (t:=33) (l:=cs) hC4 (by simp[hcs]) hcs1 (by rw[hcs];rfl) rfl ?_
  intro w5 hs5 hC5 hk5
  try simp only[go_sem]
  refine hK _ _ ?_;clear hK hgd;clear K;try clear gd
  rw[show w1.heap.size=w.heap.size+3 by omega]at hg4
  have hG5:=hG _ _ _ _ _ hg4 hk5 fun i hi=>by omega
  have hR5:Rdr w w5 (w.heap.size+1) [] (.slice oa on oc) e:=hR4.keep hk5 fun i hi=>by omega
  obtain⟨wv5,hb5,_⟩:=hR5.at'
  have c5:zag w5 (some ⟨w.heap.size+1,2,Option.none⟩)=some (vi e):=zab hb5 rfl
  have hA5:=(hk5.block w.heap.size (by omega) (by omega)).trans ((hk4.block w.heap.size (by omega) (by omega)).trans (Ext.at (hE2.trans hE3) hA))
  have hE5:Ext w w5:=hR5.ext
  by_cases he:e=0
  ·subst he
   have ez:decide ((0:Int)=0)=true:=rfl
   have p9:zaA w5 (some ⟨w.heap.size+2,0,Option.none⟩) 5=some cs:=by
    have:=zam (n:=5) hC5 (by simp[hcs])
    exact this
   refine go (an6 s6 s8 s9 c5 ez (Nat.zero_add 2)) ?_
   refine rq ?_;intro gd K hgd hK
   try simp (disch:=first|omega|assumption|rfl) only[go_sem,s6,s9,p9]
   refine zaI (P:=Tryz.prog) (t:=33) (l:=cs) hA5 (by rw[hcs];rfl) hcs1 (by rw[hcs];rfl) rfl ?_
   intro w6 hs6 hB6 hk6
   try simp only[go_sem]
   refine hK _ _ ?_;clear hK hgd;clear K;try clear gd
   refine go trivial ?_
   refine zae (.inr rfl) Tryz.ntmps38 rfl (zaK (x:=⟨w.heap.size,0,Option.none⟩) (k:=5) ((vr1 s6)) rfl rfl (zam (n:=5) hB6 (by simp[hcs])) (zac (vr0) zad)) ?_
   exact⟨Keep.to_ext hE5 rfl (fun i hi=>by omega) hk6,fun _=>⟨cs,_,rfl,(by omega),hG _ _ _ _ _ hG5 hk6 fun i hi=>by omega⟩,fun h=>absurd rfl h⟩
  ·refine go (an6 s6 s8 s9 c5 (decide_eq_false he) (Nat.zero_add 2)) ?_
   refine zaY (fun _=>false) [(0,true),(1,true),(2,true),(3,true),(4,true),(5,false),(6,true)] ((fun i=>i=w.heap.size)) mixed (by kernel_rfl) ?_;intro gd K x hgd hx hxe hK;have hx0:=zaW hxe;clear hxe
   have c5x:=zaa hx0 c5
   simp (disch:=first|omega|assumption|rfl) only[go_sem]
   refine⟨by kernel_rfl,?_⟩
   rw[show bdV Tryz.prog 33 []=some (.agg #[vi 0,.slice Option.none 0 0,.slice Option.none 0 0,.slice Option.none 0 0,.slice Option.none 0 0]) from by kernel_rfl]
   simp (disch:=first|omega|assumption|rfl) only[go_sem,s6,s8,c5x,Nat.zero_add]
   refine⟨fun a ha hb'=>by cases ha;dsimp only at hb';omega,?_⟩
   refine zaI (P:=Tryz.prog) (t:=33) (l:=[vi 0,.slice Option.none 0 0,.slice Option.none 0 0,.slice Option.none 0 0,.slice Option.none 0 0]) (Ext.at hx0 hA5) rfl (zbS _ _ _ _ _ rfl rfl rfl rfl) rfl rfl ?_
   intro w6 hs6 hB6 hk6
   refine⟨.inr hk6,?_⟩
   simp (disch:=first|omega|assumption|rfl) only[go_sem]
   refine hK _ _ ?_;clear hK hgd;clear K;try clear gd
   refine go trivial ?_
   have hE6:Ext w w6:=Keep.to_ext (hE5.trans hx0) rfl (fun i hi=>by omega) hk6
   refine zae (.inr rfl) Tryz.ntmps38 rfl (zaK (x:=⟨w.heap.size,0,Option.none⟩) (k:=5) ((vr1 s6)) rfl rfl (zam (n:=5) hB6 rfl) (zac (vr0) zad)) ?_
   exact⟨hE6,fun h=>absurd h he,fun _=>rfl⟩
set_option maxRecDepth 100000
theorem zbM{B:Nat}{e:TypeId}{w:World}{v:Value}{l:List Value}(h:Own B w e v l):Hz (fun i=>i<B) w (fun X=>Row X v l):=fun X hX=>(h.keep hX fun i hi hs=>by have:=(h.ge hi).1;omega).row
def GD(d:DatL)(B:Nat)(cs:List Value)(w:World):Prop:=Hz (fun i=>i<B) w (fun X=>DatAt X cs d)
theorem GD_keep(d:DatL):∀B cs x y S,GD d B cs x→Keep S x y→(∀i,S i→i<B)→GD d B cs y:=fun B cs x y S h hk hS X hX=>h X ((hk.mono fun i _ hi=>hS i hi).trans hX)
theorem zch{d:DatL}{B:Nat}{cs:List Value}{w:World}(h:GD d B cs w):cs.length=5∧∀x∈cs,one x=true:=by
 obtain⟨nm,nu,tx,rw',rfl,⟨vals,h1,_,_⟩,h2,h3,h4⟩:=h.now.ex
 exact⟨rfl,zbS _ _ _ _ _ h1.isOne h2.isOne h3.isOne h4.isOne⟩
theorem PkG{w:World}{t:Int}{wv:Value}{oa:Option Addr}{on oc:Nat}{ws:List (Lab×Bool)}{d:DatL}(ht1:1≤t)(ht2:t≤65535)(hr:Rows 2 WdC w wv ws)
  (hc:∀(b:Nat) (w1:World),Rdr w w1 b ws (.slice oa on oc) 0→Fn Tryz.prog (if zbx ws=true then 105 else 106) #[.pointer (some ⟨b,0,Option.none⟩),vi t] w1 (fun v w'=>(∃cs:List Value,v= .agg cs.toArray∧GD d w1.heap.size cs w')∧Rdr w w' b [] (.slice oa on oc) 0∧Keep (fun i=>i=b) w1 w')):
  Fn Tryz.prog 38 #[vi t,wv,.slice oa on oc] w (fun v w'=>Ext w w'∧∃cs:List Value,v= .tuple #[.agg cs.toArray,vi 0]∧GD d w.heap.size cs w'):=by
 refine Fn.mono (zee (e:=0) (G:=GD d) ht1 ht2 hr (GD_keep d) (fun b w1 h=>Fn.mono (hc b w1 h) ?_)) ?_
 ·rintro v w' ⟨⟨cs,rfl,hg⟩,h2⟩
  exact⟨⟨cs,rfl,(zch hg).1,(zch hg).2,hg⟩,h2⟩
 ·rintro v w' ⟨hE,h0,_⟩
  obtain⟨cs,B,rfl,hB,hg⟩:=h0 rfl
  exact⟨hE,cs,rfl,fun X hX=>hg X (hX.mono fun i _ h=>by omega)⟩
theorem PkD{w:World}{t:Int}{wv:Value}{oa:Option Addr}{on oc:Nat}{ws:List (Lab×Bool)}{d:DatL}(ht1:1≤t)(ht2:t≤65535)(hr:Rows 2 WdC w wv ws)
  (hc:∀(b:Nat) (w1:World),Rdr w w1 b ws (.slice oa on oc) 0→Fn Tryz.prog (if zbx ws=true then 105 else 106) #[.pointer (some ⟨b,0,Option.none⟩),vi t] w1 (fun v w'=>(∃cs:List Value,v= .agg cs.toArray∧GD d w1.heap.size cs w')∧Rdr w w' b [] (.slice oa on oc) 0∧Keep (fun i=>i=b) w1 w')):
  Fn Tryz.prog 38 #[vi t,wv,.slice oa on oc] w (fun v w'=>Ext w w'∧∃cs:List Value,v= .tuple #[.agg cs.toArray,vi 0]∧DatAt w' cs d):=
 Fn.mono (PkG ht1 ht2 hr hc) fun _ _ ⟨hE,cs,h,hg⟩=>⟨hE,cs,h,hg.now⟩
def dA:DatL:=⟨1,[],[],[],[10,0,0,7]⟩
def dM:DatL:=⟨15,[[[120],[111]]],[5],[],[]⟩
def dU:DatL:=⟨99,[],[],[],[10,255]⟩
def dT:DatL:=⟨16,[],[],[[97,34,98]],[]⟩
theorem splA:SplP [49,48,46,48,46,48,46,55] [[49,48],[48],[48],[55]]:=⟨by decide+kernel,by decide+kernel⟩
theorem splB:SplP [50,53,54,46,48,46,48,46,49] [[50,53,54],[48],[48],[49]]:=⟨by decide+kernel,by decide+kernel⟩
theorem pk1{w:World}(hW:WX w){wv:Value}(hr:Rows 2 WdC w wv [([49,48,46,48,46,48,46,55],false)]):Fn Tryz.prog 38 #[vi 1,wv,.slice Option.none 0 0] w (fun v w'=>Ext w w'∧∃cs:List Value,v= .tuple #[.agg cs.toArray,vi 0]∧DatAt w' cs dA):=by
 refine PkD (by decide) (by decide) hr fun b w1 h=>?_
 rw[if_neg (by decide)]
 have he:zfd (if ([[49,48],[48],[48],[55]]:List Lab).length=4 then(if (false:Bool)=true then zaO 0 2 else 0) else zaO (if (false:Bool)=true then zaO 0 2 else 0) 2) [[49,48],[48],[48],[55]]=0:=by decide+kernel
 refine Fn.mono (zfy hW h (by decide) splA (by decide) (by decide)) ?_
 rintro _ w' ⟨⟨rv,rfl,ho⟩,hR,hk⟩
 rw[he]at hR
 rw[show ([[49,48],[48],[48],[55]]:List Lab).map octP=([10,0,0,7]:List UInt8).map zak from by kernel_rfl]at ho
 exact⟨⟨_,rfl,fun X hX=>⟨_,_,_,_,rfl,za4 X,zaS X,zaS X,zbM ho X hX⟩⟩,hR,hk⟩
theorem pk2{w:World}(hW:WX w){wv:Value}{oa:Addr}{oc:Nat}(ho:Row w (.slice (some oa) 1 oc) (([[111]]:Nm).map vs))(hr:Rows 2 WdC w wv [([53],false),([120],false)]):Fn Tryz.prog 38 #[vi 15,wv,.slice (some oa) 1 oc] w (fun v w'=>Ext w w'∧∃cs:List Value,v= .tuple #[.agg cs.toArray,vi 0]∧DatAt w' cs dM):=by
 refine PkD (by decide) (by decide) hr fun b w1 h=>?_
 rw[if_neg (by decide)]
 refine Fn.mono (zgc (e1:=0) (e2:=0) hW h (by decide) (by decide) ho ⟨by decide,by decide⟩ (by decide+kernel) (by decide+kernel)) ?_
 rintro _ w' ⟨⟨nmv,nuv,nv,rfl,h1,h2,h3,h4⟩,hR,hk⟩
 rw[show (zbT [120] [[111]]).1=[[120],[111]] from by decide+kernel]at h3
 rw[show v32 ((decP 65535 [53]).1:Int)=v32 5 from by kernel_rfl]at h1
 refine⟨⟨_,rfl,fun X hX=>⟨_,_,_,_,rfl,zeZ (zbM h2 X hX) ?_,zbM h1 X hX,zaS X,zaS X⟩⟩,hR,hk⟩
 exact h3.blocks fun a n c hv=>hX.block _ (h4 a n c hv).2 (by have:=(h4 a n c hv).1;omega)
theorem pk3{w:World}(hW:WX w){wv:Value}(hr:Rows 2 WdC w wv [([92,35],false),([50],false),([48,65],false),([102,102],false)]):Fn Tryz.prog 38 #[vi 99,wv,.slice Option.none 0 0] w (fun v w'=>Ext w w'∧∃cs:List Value,v= .tuple #[.agg cs.toArray,vi 0]∧DatAt w' cs dU):=by
 refine PkD (by decide) (by decide) hr fun b w1 h=>?_
 rw[if_pos (by decide)]
 have hp:Pairs (catW [([48,65],false),([102,102],false)]) [10,255]:=by
  refine⟨rfl,fun i h1 h2 h3=>?_⟩
  have:i=0∨i=1:=by
   have h2:i<2:=h1
   omega
  rcases this with rfl|rfl
  ·exact⟨0,10,rfl,rfl,rfl⟩
  ·exact⟨15,15,rfl,rfl,rfl⟩
 refine Fn.mono (any_ok (n:=2) hW h 99 (by decide) (by decide) (by decide) (by decide+kernel) (by decide) (by decide) (by decide+kernel) (by decide) hp) ?_
 rintro _ w' ⟨⟨rv,rfl,ho⟩,hR,hk⟩
 rw[show zaX (rawD 99 [10,255])=0 from by decide+kernel]at hR
 exact⟨⟨_,rfl,fun X hX=>⟨_,_,_,_,rfl,za4 X,zaS X,zaS X,zbM ho X hX⟩⟩,hR,hk⟩
theorem pk4{w:World}(hW:WX w){wv:Value}(hr:Rows 2 WdC w wv [([50,53,54,46,48,46,48,46,49],false)]):Fn Tryz.prog 38 #[vi 1,wv,.slice Option.none 0 0] w (fun v w'=>Ext w w'∧v= .tuple #[.agg ([vi 0,.slice Option.none 0 0,.slice Option.none 0 0,.slice Option.none 0 0,.slice Option.none 0 0]:List Value).toArray,vi 7]):=by
 have he:zfd (if ([[50,53,54],[48],[48],[49]]:List Lab).length=4 then(if (false:Bool)=true then zaO 0 2 else 0) else zaO (if (false:Bool)=true then zaO 0 2 else 0) 2) [[50,53,54],[48],[48],[49]]=7:=by decide+kernel
 refine Fn.mono (zee (e:=7) (G:=fun _ _ _=>True) (by decide) (by decide) hr (fun _ _ _ _ _ _ _ _=>trivial) fun b w1 h=>?_) ?_
 ·rw[if_neg (by decide)]
  refine Fn.mono (zfy hW h (by decide) splB (by decide) (by decide)) ?_
  rintro _ w' ⟨⟨rv,rfl,ho⟩,hR,hk⟩
  rw[he]at hR
  obtain⟨ra,rc',hrv⟩:=ho.slice
  exact⟨⟨_,rfl,rfl,zbS _ _ _ _ _ rfl rfl rfl (by rw[hrv];rfl),trivial⟩,hR,hk⟩
 ·rintro v w' ⟨hE,_,h1⟩
  exact⟨hE,h1 (by decide)⟩
theorem pk5{w:World}{wv:Value}(hr:Rows 2 WdC w wv [([97,92,34,98],true)]):Fn Tryz.prog 38 #[vi 16,wv,.slice Option.none 0 0] w (fun v w'=>Ext w w'∧∃cs:List Value,v= .tuple #[.agg cs.toArray,vi 0]∧DatAt w' cs dT):=by
 refine PkD (by decide) (by decide) hr fun b w1 h=>?_
 rw[if_neg (by decide)]
 refine Fn.mono (zgb h (by decide) (by decide) (by decide)) ?_
 rintro _ w' ⟨⟨tv,rfl,ho⟩,hR,hk⟩
 rw[show zeB 0 [([97,92,34,98],true)]=0 from by decide+kernel]at hR
 rw[show ((([([97,92,34,98],true)]:List (Lab×Bool)).map fun x=>untT x.1).map vs)=([[97,34,98]]:List Lab).map vs from by kernel_rfl]at ho
 exact⟨⟨_,rfl,fun X hX=>⟨_,_,_,_,rfl,za4 X,zaS X,zbM ho X hX,zaS X⟩⟩,hR,hk⟩
set_option maxRecDepth 10000
theorem b_shr8{P:Program}{t:TypeId}{n:Nat}:binV P .shr t (.int .u64 (n:Int)) (.int .u64 8)=some (.int .u64 ((n / 256:Nat):Int)):=by
 show some (Value.int .u64 (Int.fdiv (n:Int) (2 ^ (min (Int.toNat 8) 64))))=_
 have:(2:Int) ^ (min (Int.toNat 8) 64)=((256:Nat):Int):=by decide
 rw[this,Int.fdiv_eq_ediv_of_nonneg _ (by omega)];rfl
theorem zf0{n:Nat}:IntKind.u8.wrap (n:Int)=((n % 256:Nat):Int):=by
 show(n:Int) % 256=_
 omega
theorem zim{w:World}(hW:WX w){c:UInt8}{s:Lab}{ps:List Lab}{n:Nat}(hs:s.length<4000000000)(h:SplC c s ps)(hn:ps.length=n):
  Fn Tryz.prog 139 #[vs s,vs [c]] w (fun v w'=>v= .slice (some ⟨w.heap.size,0,Option.none⟩) n n∧w'.heap[w.heap.size]? =some (.cells (ps.map vs).toArray 9 (0,0))∧Ext w w'):=by
 obtain⟨m,hm⟩:=hW.ml
 refine Fn.of_calls ((Any.strings_Split Tryz.lays146 (by kernel_rfl) ⟨s.toArray⟩ ⟨#[c]⟩ m w (show s.toArray.size<_ by simp;omega) hm (Nat.le_refl 1)).mono ?_)
 rintro _ w' ⟨he,rfl⟩
 subst hn
 rw[h.sp,h.ct,List.map_map]at*
 refine⟨_,he,rfl,?_,Ext.alloc w _⟩
 rw[World.alloc_heap_new]
 rfl
def ze1(p:Lab):List UInt8:=[UInt8.ofNat (zaJ p / 256),UInt8.ofNat (zaJ p % 256)]
theorem ze0:∀l:List Lab,(l.flatMap ze1).length=2*l.length
 | []=>rfl
 |p::l=>by rw[List.flatMap_cons,List.length_append,ze0 l,List.length_cons,show(ze1 p).length=2 from rfl];omega
theorem zhT:∀l:Lab,zaJ l<16 ^ l.length:=fun l=>by
 have:∀(l:Lab) (n k:Nat),n<16 ^ k→l.foldl (fun n c=>16*n+(hexV c).getD 0) n<16 ^ (k+l.length):=fun l=>by
  induction l with
  |nil=>intro n k h;exact h
  |cons c l ih=>
   intro n k h
   have hc:(hexV c).getD 0<16:=by
    cases hv:hexV c with
    |none=>decide
    |some x=>exact zeA hv
   have:=ih (16*n+(hexV c).getD 0) (k+1) (by rw[Nat.pow_succ];omega)
   rw[List.foldl_cons,List.length_cons,show k+(l.length+1)=k+1+l.length by omega]
   exact this
 have:=this l 0 0 (by decide)
 rwa [Nat.zero_add]at this
theorem long_ok{W0 w:World}{b:Nat}{t:Lab}{ws:List (Lab×Bool)}{ov:Value}{ps:List Lab}(hW:WX W0)(h:Rdr W0 w b ((t,false)::ws) ov 0)(hl:ws.length≤1000000)(ht:t.length≤1000000)(hsp:SplC 58 t ps)(h8:ps.length=8)(hps:∀p∈ps,p≠ []∧p.length≤4∧∀c∈p,c∈digs16∧(hexV c).isSome=true):
  Fn Tryz.prog 168 #[.pointer (some ⟨b,0,Option.none⟩)] w (fun v w'=>Own w.heap.size w' 5 v ((ps.flatMap ze1).map zak)∧Rdr W0 w' b ws ov 0∧Keep (fun i=>i=b) w w'):=by
 have hbl:=h.lt
 refine enter Tryz.func168 Tryz.ntmps168 rfl rfl ?_
 refine go trivial ?_
 refine rc trivial (zci h hl) ?_
 rintro _ w1 ⟨rfl,hR1,hk1⟩
 simp only[if_neg (show¬false=true by decide)]at hR1
 refine rd trivial (zim (n:=8) (hW.ext hR1.ext) (by omega) hsp h8) ?_
 rintro _ w2 ⟨rfl,hB2,hE2⟩
 have hs1:=hk1.size
 have hs2:=hE2.size
 have hP:w1.heap.size<w2.heap.size:=(Array.getElem?_eq_some_iff.1 hB2).1
 obtain⟨P,hPe⟩:∃P,w1.heap.size=P:=⟨_,rfl⟩
 rw[hPe]at hB2 hP ⊢
 have hk2:Keep (fun i=>i=b) w w2:=hk1.trans (hE2.mono fun _ _ h=>h.elim)
 have d8:decide (((8:Nat):Int)=8)=true:=rfl
 have hR2:=hR1.extx hE2
 refine rgo (an2 d8 Bool.not_true) ?_
 refine zbs 8 (fun i σ v=>(σ 0= .pointer (some ⟨b,0,Option.none⟩)∧σ 17= .slice (some ⟨P,0,Option.none⟩) 8 8∧σ 18=vi (8:Nat)∧σ 19=vi i)∧Ext w2 v∧∃sv,σ 4=sv∧Own w2.heap.size v 5 sv (((ps.take i).flatMap ze1).map zak)) ?_ ?_ ?_
 ·exact⟨⟨vr0,vr0,vr0,vr0⟩,Keep.refl _ _,_,vr0,Own.nil _ _ _⟩
 ·rintro i σ v hi ⟨r1,r2,r3,r4⟩ ⟨⟨s0,s17,s18,s19⟩,hE,sv,s4,hown⟩
  obtain⟨p,hp⟩:∃p,ps[i]'(by omega)=p:=⟨_,rfl⟩
  have hpm:p∈ps:=hp▸List.getElem_mem _
  obtain⟨hp0,hp4,hpc⟩:=hps p hpm
  have hsv:=hE.size
  have hBv:=Ext.at hE hB2
  have g:zag v (some ⟨P,i,Option.none⟩)=some (vs p):=zaG (j:=i) hBv (by rw[List.getElem?_map,List.getElem?_eq_getElem (by omega),hp];rfl)
  have d1:decide (p=[])=false:=decide_eq_false hp0
  have d2:decide ((4:Int)<(p.length:Int))=false:=decide_eq_false (by omega)
  have hvl:zaJ p<65536:=by
   have h1:=zhT p
   have h2:16 ^ p.length≤16 ^ 4:=Nat.pow_le_pow_right (by decide) hp4
   omega
  refine go (an9 s0 s17 s18 s19 s4 r1 g r2 (an3 r3 (Nat.mul_one i) (Nat.zero_add i))) ?_
  refine rcg [(2,25),(7,30)] (an6 s0 s4 d1 d2 r2 trivial) (zdZ v p (by omega)) ?_
  rintro _ v1 ⟨rfl,hE1⟩
  rw[decide_eq_true (zf2 fun c hc=>(hpc c hc).1)]
  refine reg [(2,25),(7,30)] (an6 s0 s4 d1 d2 Bool.not_true r2) ?_
  refine go (an2 s0 s4) ?_
  refine rc (an2 s0 s4) (PuH_ok v1 (bt:=16) (mx:=65535) (.inr ⟨rfl,rfl⟩) hp0 (by omega) (fun c hc=>(hpc c hc).2) (by omega)) ?_
  rintro _ v2 ⟨rfl,hE2'⟩
  obtain⟨x,hx⟩:∃x,zaJ p=x:=⟨_,rfl⟩
  rw[hx]at hvl ⊢
  have f1:=b_shr8 (P:=Tryz.prog) (t:=114) (n:=x)
  have f2:IntKind.u8.wrap ((x / 256:Nat):Int)=((x / 256:Nat):Int):=by rw[zf0];omega
  have f3:IntKind.u8.wrap (x:Int)=((x % 256:Nat):Int):=zf0
  have hsE:=hE1.size
  have hsE2:=hE2'.size
  refine rgo (an2 s0 s4) ?_
  refine rq ?_;intro gd K hgd hK
  try simp (disch:=first|omega|assumption|rfl) only[go_sem,s4,f1,f2,f3]
  refine zih (z:= .int .u8 0) rfl rfl rfl rfl rfl rfl ?_
  intro y1 hy1 hys1 hyo
  try simp (disch:=first|omega|assumption|rfl) only[go_sem,s4]
  refine zaN (e:=5) (((hown.ext hE1).ext hE2').ext hy1) hyo.row rfl rfl rfl rfl rfl rfl ((vr1 s4)) (vr0) (fun q hq=>by simp only[List.mem_cons,List.not_mem_nil,or_false]at hq;rcases hq with rfl|rfl<;>rfl) (by rw[List.length_map,ze0,List.length_take];simp;omega) (by decide) (by omega) ?_
  intro sv' y2 hown2 hX2 hK2 hb2'
  try simp only[go_sem]
  refine hK _ _ ?_;clear hK hgd;clear K;try clear gd
  refine go (an5 s0 s17 s18 s19 r4) ?_
  refine⟨rfl,⟨(vq1 s0),(vq1 s17),(vq1 s18),(vq1 r4)⟩,hX2 w2 (((hE.trans hE1).trans hE2').trans hy1) (Nat.le_refl _),sv',vr0,?_⟩
  rw[zal (by omega),hp,List.flatMap_append,List.map_append]
  have e2:(([p]:List Lab).flatMap ze1).map zak=[.int .u8 ((x / 256:Nat):Int),.int .u8 ((x % 256:Nat):Int)]:=by
   show [zak (UInt8.ofNat (zaJ p / 256)),zak (UInt8.ofNat (zaJ p % 256))]=_
   rw[hx,zbv (by omega),zbv (by omega)]
  rw[e2]
  exact hown2
 ·rintro σ v r ⟨⟨s0,s17,s18,s19⟩,hE,sv,s4,hown⟩
  rw[List.take_of_length_le (by omega)]at hown
  refine go (an6 s0 s17 s18 s19 s4 r) ?_
  refine zae (.inr rfl) Tryz.ntmps168 rfl (zac ((vr1 s4)) zad) ?_
  exact⟨hown.mono (by omega),hR2.extx hE,hk2.trans (hE.mono fun _ _ h=>h.elim)⟩
theorem zcs{c:UInt8}(h1:c≠92)(h2:c≠34)(h3:c≠32)(s w:Lab)(q:Bool):wF false (c::s) w q=wF false s (w++ [c]) q:=by
 rw[wF,if_neg (fun h=>h1 h.1),if_neg h2]
 cases q
 ·rw[if_neg (by decide),if_neg h3]
 ·rw[if_pos rfl]
theorem zef(d:UInt8)(s w:Lab)(q:Bool):wF false (92::d::s) w q=wF false s (w++ [92,d]) q:=by
 rw[wF,if_pos ⟨rfl,by simp⟩,wF,List.append_assoc]
 rfl
theorem zg5:∀(l s w:Lab) (q:Bool),(∀c∈l,c≠92∧c≠34∧c≠32)→wF false (l++s) w q=wF false s (w++l) q
 | [],s,w,q,_=>by rw[List.nil_append,List.append_nil]
 |c::l,s,w,q,h=>by
  obtain⟨h1,h2,h3⟩:=h c (List.mem_cons_self ..)
  rw[List.cons_append,zcs h1 h2 h3,zg5 l s _ q fun x hx=>h x (List.mem_cons_of_mem _ hx),List.append_assoc]
  rfl
theorem zcE{c:UInt8}(h:digB c=true):c≠92∧c≠34∧c≠32∧c≠46∧c≠58:=by
 refine⟨?_,?_,?_,?_,?_⟩<;>(rintro rfl;revert h;decide)
theorem wF_esc(c:UInt8)(s w:Lab)(q:Bool):wF false (escB c++s) w q=wF false s (w++escB c) q:=by
 have h2:=zdF (k:=c.toNat / 10 % 10) (by omega)
 have h3:=zdF (k:=c.toNat % 10) (by omega)
 unfold escB
 show wF false (92::_::_::_::s) w q=_
 rw[zef,zcs (zcE h2).1 (zcE h2).2.1 (zcE h2).2.2.1,zcs (zcE h3).1 (zcE h3).2.1 (zcE h3).2.2.1,List.append_assoc,List.append_assoc]
 rfl
theorem wF_lab(c:UInt8)(s w:Lab)(q:Bool):wF false (labB c++s) w q=wF false s (w++labB c) q:=by
 unfold labB
 by_cases h1:c.toNat≤32∨127≤c.toNat
 ·rw[if_pos h1];exact wF_esc c s w q
 ·rw[if_neg h1]
  by_cases h2:marksL.contains c=true
  ·rw[if_pos h2];exact zef c s w q
  ·rw[if_neg h2]
   have m1:c≠92:=fun e=>h2 (by rw[e];decide)
   have m2:c≠34:=fun e=>h2 (by rw[e];decide)
   have m3:c≠32:=fun e=>h1 (.inl (by rw[e];decide))
   exact zcs m1 m2 m3 s w q
theorem zg4:∀(l s w:Lab) (q:Bool),wF false (zau l++s) w q=wF false s (w++zau l) q
 | [],s,w,q=>by unfold zau;simp
 |c::l,s,w,q=>by
  have e:zau (c::l)=labB c++zau l:=by unfold zau;rw[List.flatMap_cons]
  rw[e,List.append_assoc,wF_lab,zg4 l,List.append_assoc]
theorem zha:∀(n:Nm) (s w:Lab) (q:Bool),wF false ((n.flatMap fun l=>zau l++ [46])++s) w q=wF false s (w++n.flatMap fun l=>zau l++ [46]) q
 | [],s,w,q=>by simp
 |l::n,s,w,q=>by
  rw[List.flatMap_cons,List.append_assoc,List.append_assoc,zg4]
  show wF false (46::((n.flatMap fun l=>zau l++ [46])++s)) (w++zau l) q=_
  rw[zcs (by decide) (by decide) (by decide),zha n]
  simp
def Tok(p:Lab):Prop:=p≠ []∧∀s w:Lab,wF false (p++s) w false=wF false s (w++p) false
theorem zf3(n:Nm):Tok (zaT n):=by
 unfold zaT
 by_cases h:n=[]
 ·rw[if_pos h]
  exact⟨by simp,fun s w=>zg5 [46] s w false (by decide)⟩
 ·rw[if_neg h]
  refine⟨?_,fun s w=>zha n s w false⟩
  cases n with
  |nil=>exact absurd rfl h
  |cons l n=>simp
theorem zeg{p:Lab}(h0:p≠ [])(h:∀c∈p,c≠92∧c≠34∧c≠32):Tok p:=⟨h0,fun s w=>zg5 p s w false h⟩
theorem zeh(n:Nat):Tok (Lib.decDigits n):=zeg (zgn n) fun c hc=>by
 have:=zcE (zdf n c hc)
 exact⟨this.1,this.2.1,this.2.2.1⟩
theorem zcP{p:Lab}(h:Tok p):wF false p [] false=[(p,false)]:=by
 have:=h.2 [] []
 rw[List.append_nil,List.nil_append]at this
 rw[this,wF,if_neg h.1]
theorem zdk{p:Lab}(h:Tok p)(s:Lab):wF false (p++([32]++s)) [] false=(p,false)::wF false s [] false:=by
 rw[h.2,List.nil_append]
 show wF false (32::s) p false=_
 rw[wF,if_neg (fun e=>absurd e.1 (by decide)),if_neg (by decide),if_neg (by decide),if_pos rfl,if_neg h.1]
theorem zg9:∀ps:List Lab,(∀p∈ps,Tok p)→wF false (zaM [32] ps) [] false=ps.map fun p=>(p,false)
 | [],_=>rfl
 | [p],h=>by rw[zdc];exact zcP (h p (List.mem_cons_self ..))
 |p::q::r,h=>by
  rw[zcl,zdk (h p (List.mem_cons_self ..)),zg9 (q::r) fun x hx=>h x (List.mem_cons_of_mem _ hx)]
  rfl
theorem wF_quoB(c:UInt8)(s w:Lab):wF false (quoB c++s) w true=wF false s (w++quoB c) true:=by
 unfold quoB
 split
 ·exact wF_esc c s w true
 ·rename_i h1
  split
  ·exact zef c s w true
  ·rename_i h2
   show wF false (c::s) w true=_
   rw[wF,if_neg (fun h=>h2 (.inr h.1)),if_neg (fun h=>h2 (.inl h)),if_pos rfl]
theorem zg8:∀(l s w:Lab),wF false (quoL l++s) w true=wF false s (w++quoL l) true
 | [],s,w=>by unfold quoL;simp
 |c::l,s,w=>by
  have e:quoL (c::l)=quoB c++quoL l:=by unfold quoL;rw[List.flatMap_cons]
  rw[e,List.append_assoc,wF_quoB,zg8 l,List.append_assoc]
theorem zg7(t s:Lab):wF false (quoT t++s) [] false=(quoL t,true)::wF false s [] false:=by
 unfold quoT
 show wF false (34::(quoL t++ [34]++s)) [] false=_
 rw[wF,if_neg (fun e=>absurd e.1 (by decide)),if_pos rfl,if_neg (by decide),List.append_assoc,zg8,List.nil_append]
 show wF false (34::s) (quoL t) true=_
 rw[wF,if_neg (fun e=>absurd e.1 (by decide)),if_pos rfl,if_pos rfl]
theorem zg6:∀ts:List Lab,wF false (zaM [32] (ts.map quoT)) [] false=ts.map fun t=>(quoL t,true)
 | []=>rfl
 | [t]=>by
  rw[List.map_singleton,zdc]
  have:=zg7 t []
  rw[List.append_nil]at this
  rw[this,wF]
  rfl
 |t::u::r=>by
  rw[List.map_cons,List.map_cons,zcl,zg7]
  show(quoL t,true)::wF false (32::zaM [32] (quoT u::r.map quoT)) [] false=_
  have ih:=zg6 (u::r)
  rw[List.map_cons]at ih
  rw[wF,if_neg (fun e=>absurd e.1 (by decide)),if_neg (by decide),if_neg (by decide),if_pos rfl,if_pos rfl,ih]
  rfl
theorem un_quoB(c:UInt8)(r acc:Lab):unD [] 0 (quoB c++r) acc=unD [] 0 r (acc++ [c]):=by
 unfold quoB
 split
 ·have he:=zh1 c r
  have e:escB c++r=92::((escB c).tail++r):=rfl
  rw[e,unD,if_pos rfl,he]
  simp only[if_true]
  have e2:(escB c).tail++r=UInt8.ofNat (48+c.toNat / 100)::UInt8.ofNat (48+c.toNat / 10 % 10)::UInt8.ofNat (48+c.toNat % 10)::r:=rfl
  rw[e2,unD,unD,unD]
 ·split
  ·rename_i h2
   have hd:digB c=false:=by rcases h2 with rfl|rfl<;>decide
   show unD [] 0 (92::(c::r)) acc=_
   rw[unD,if_pos rfl,zfb hd]
   simp only[if_true]
   rw[unD]
  ·rename_i h2
   show unD [] 0 (c::r) acc=_
   rw[unD,if_neg (fun h=>h2 (.inr h)),if_neg (by simp)]
theorem zhd:∀(l acc:Lab),unD [] 0 (quoL l) acc=(acc++l,0)
 | [],acc=>by unfold quoL unD;simp
 |c::l,acc=>by
  have e:quoL (c::l)=quoB c++quoL l:=by unfold quoL;rw[List.flatMap_cons]
  rw[e,un_quoB,zhd l]
  simp
theorem zdu{n o:Nm}(h:zaD n=0):zbT (zaT n) o=(n,0):=by
 have h1:=(zdG h).1
 unfold zaT
 by_cases hn:n=[]
 ·rw[if_pos hn,hn];rfl
 ·rw[if_neg hn]
  have hh:¬(n.flatMap fun l=>zau l++ [46])=[64]∧¬(n.flatMap fun l=>zau l++ [46])=[46]∧¬(n.flatMap fun l=>zau l++ [46])=[]:=by
   cases n with
   |nil=>exact absurd rfl hn
   |cons l n=>
    have:=zhf (errL_ne (h1 l (List.mem_cons_self ..))) ([46]++n.flatMap fun l=>zau l++ [46])
    rw[List.flatMap_cons,List.append_assoc]
    exact this
  have hp:zbi (n.flatMap fun l=>zau l++ [46])=(n,true,0):=by
   unfold zbi
   rw[zf5,if_neg (fun e=>by cases e),zd1 n [] true h1 (fun e=>absurd e hn),List.nil_append]
  unfold zbT
  rw[if_neg hh.1,if_neg hh.2.1,if_neg hh.2.2,hp]
  simp[h]
theorem own28_ok{W0 w:World}{b:Nat}{t:Lab}{ov:Value}{ps:List Lab}(hW:WX W0)(h:Rdr W0 w b [(t,false)] ov 0)(ht:t.length≤1000000)(hsp:SplC 58 t ps)(h8:ps.length=8)(hps:∀p∈ps,p≠ []∧p.length≤4∧∀c∈p,c∈digs16∧(hexV c).isSome=true):
  Fn Tryz.prog 106 #[.pointer (some ⟨b,0,Option.none⟩),vi 28] w (fun v w'=>(∃rv,v= .agg #[vi 28,.slice Option.none 0 0,.slice Option.none 0 0,.slice Option.none 0 0,rv]∧Own w.heap.size w' 5 rv ((ps.flatMap ze1).map zak))∧Rdr W0 w' b [] ov 0∧Keep (fun i=>i=b) w w'):=by
 have hbl:=h.lt
 have hlow:=h.low
 refine enter Tryz.func106 Tryz.ntmps106 rfl rfl ?_
 refine go trivial ?_
 refine zas ?_
 intro w1 hE1 hs1 hA
 refine rq ?_;intro gd K hgd hK
 try simp only[go_sem]
 refine⟨by kernel_rfl,?_⟩
 rw[show bdV Tryz.prog 33 [(0,vi 28)]=some (.agg #[vi 28,.slice Option.none 0 0,.slice Option.none 0 0,.slice Option.none 0 0,.slice Option.none 0 0]) from by kernel_rfl]
 try simp only[go_sem]
 refine zbp (P:=Tryz.prog) (l:=[vi 28,.slice Option.none 0 0,.slice Option.none 0 0,.slice Option.none 0 0,.slice Option.none 0 0]) rfl (zbS _ _ _ _ _ rfl rfl rfl rfl) rfl rfl ?_
 intro w2 hE2 hs2 hB2
 try simp only[go_sem]
 refine hK _ _ ?_;clear hK hgd;clear K;try clear gd
 rw[hs1]at hB2
 simp only[hs1]
 have hR2:=(h.extx hE1).extx hE2
 refine go trivial ?_
 refine rc trivial (zdw hR2 28) ?_
 rintro _ w3 ⟨rfl,hE3⟩
 rw[show zew 28 ([(t,false)]:List (Lab×Bool)).length=true from rfl]
 have d1:decide ((28:Int)=1)=false:=rfl
 have d2:decide ((28:Int)=28)=true:=rfl
 refine rgo (an2 d1 d2) ?_
 have hR3:=hR2.extx hE3
 have hs3:=hE3.size
 refine rq ?_;intro gd K hgd hK
 try simp only[go_sem]
 refine Fn.mono (long_ok hW hR3 (by simp) ht hsp h8 hps) ?_
 rintro rv w4 ⟨hown,hR4,hk4⟩
 obtain⟨ra,rc',hrv⟩:=hown.slice
 have hs4:=hk4.size
 have hB4:=(hk4.block (w.heap.size+1) (by omega) (by omega)).trans (Ext.at hE3 hB2)
 try simp (disch:=first|omega|assumption|rfl) only[go_sem,Nat.zero_add]
 refine zbQ (P:=Tryz.prog) (t:=31) (j:=4) (u:=rv) hB4 (by simp) (by rw[hrv];rfl) rfl rfl ?_
 intro w5 hs5 hB5 hk5
 try simp only[go_sem]
 refine hK _ _ ?_;clear hK hgd;clear K;try clear gd
 simp only[List.set_cons_zero,List.set_cons_succ]at hB5
 have q5:=zam (n:=5) hB5 rfl
 refine go trivial ?_
 refine rq ?_;intro gd K hgd hK
 try simp (disch:=first|omega|assumption|rfl) only[go_sem,q5]
 have hA5:w5.heap[w.heap.size]? =_:=(hk5.block _ (by omega) (by omega)).trans ((hk4.block _ (by omega) (by omega)).trans (Ext.at (hE2.trans hE3) hA))
 refine zaI (P:=Tryz.prog) (t:=33) (l:=[vi 28,.slice Option.none 0 0,.slice Option.none 0 0,.slice Option.none 0 0,rv]) hA5 rfl (zbS _ _ _ _ _ rfl rfl rfl (by rw[hrv];rfl)) rfl rfl ?_
 intro w6 hs6 hB6 hk6
 try simp only[go_sem]
 refine hK _ _ ?_;clear hK hgd;clear K;try clear gd
 refine go trivial ?_
 refine zae (.inr rfl) Tryz.ntmps106 rfl (zaK (x:=⟨w.heap.size,0,Option.none⟩) (k:=5) (vr0) rfl rfl (zam hB6 rfl) zad) ?_
 have hE13:=(hE1.trans hE2).trans hE3
 refine⟨⟨rv,rfl,((hown.keep hk5 fun i hi hs=>by have:=(hown.ge hi).1;omega).keep hk6 fun i hi hs=>by have:=(hown.ge hi).1;omega).mono (by omega)⟩,(hR4.keep hk5 fun i hi=>by omega).keep hk6 fun i hi=>by omega,?_⟩
 exact((((hE13.mono fun _ _ h=>h.elim):Keep (fun i=>i=b) w w3).trans hk4).own hk5 fun i hi h=>by omega).own hk6 fun i hi h=>by omega
theorem ownN_ok{W0 w:World}{b:Nat}{ov:Value}{o:Nm}{T:Int}{ns:List Nm}{us:List Int}(hW:WX W0)(hT:T=2∨T=5∨T=12∨T=39∨T=6)(hsh:zat T=((ns.length:Int),(us.length:Int),0,0))(hnl:ns.length≤10)(hul:us.length≤10)(h:Rdr W0 w b (ns.map (fun n=>(zaT n,false))++us.map fun m=>(numT m,false)) ov 0)(ho:Row W0 ov (o.map vs))(hoT:NmT o)
  (hN:∀n∈ns,zbT (zaT n) o=(n,0)∧(zaT n).length≤500000000∧True) (hNu:∀m∈us,(decP 4294967295 (numT m)=(m.toNat,0)∧(m.toNat:Int)=m)∧(numT m).length≤1000000):
  Fn Tryz.prog 106 #[.pointer (some ⟨b,0,Option.none⟩),vi T] w (fun v w'=>(∃nmv nuv,v= .agg #[vi T,nmv,nuv,.slice Option.none 0 0,.slice Option.none 0 0]∧Own w.heap.size w' 28 nuv (us.map v32)∧Hz (fun i=>i<w.heap.size) w' (fun X=>NamesAt X nmv ns))∧Rdr W0 w' b [] ov 0∧Keep (fun i=>i=b) w w'):=by
 have hbl:=h.lt
 have hlow:=h.low
 refine enter Tryz.func106 Tryz.ntmps106 rfl rfl ?_
 refine go trivial ?_
 refine zas ?_
 intro w1 hE1 hs1 hA
 refine rq ?_;intro gd K hgd hK
 try simp only[go_sem]
 refine⟨by kernel_rfl,?_⟩
 rw[show bdV Tryz.prog 33 [(0,vi T)]=some (.agg #[vi T,.slice Option.none 0 0,.slice Option.none 0 0,.slice Option.none 0 0,.slice Option.none 0 0]) from by kernel_rfl]
 try simp only[go_sem]
 refine zbp (P:=Tryz.prog) (l:=[vi T,.slice Option.none 0 0,.slice Option.none 0 0,.slice Option.none 0 0,.slice Option.none 0 0]) rfl (zbS _ _ _ _ _ rfl rfl rfl rfl) rfl rfl ?_
 intro w2 hE2 hs2 hB2
 try simp only[go_sem]
 refine hK _ _ ?_;clear hK hgd;clear K;try clear gd
 rw[hs1]at hB2
 simp only[hs1]
 have hR2:=(h.extx hE1).extx hE2
 have hwl:(ns.map (fun n=>(zaT n,false))++us.map fun m=>(numT m,false)).length=ns.length+us.length:=by simp
 refine go trivial ?_
 refine rc trivial (zdw hR2 T) ?_
 rintro _ w3 ⟨rfl,hE3⟩
 have hmany:zew T (ns.map (fun n=>(zaT n,false))++us.map fun m=>(numT m,false)).length=true:=by
  unfold zew
  rw[hwl,hsh]
  simp
 rw[hmany]
 have hR3:=hR2.extx hE3
 have hs3:=hE3.size
 have hB3:=Ext.at hE3 hB2
 obtain⟨P,hP⟩:∃P,w.heap.size+1=P:=⟨_,rfl⟩
 rw[hP]at hB3 ⊢
 have d1:decide (T=1)=false:=decide_eq_false (by omega)
 have d28:decide (T=28)=false:=decide_eq_false (by omega)
 have d16:decide (T=16)=false:=decide_eq_false (by omega)
 have d15:decide (T=15)=false:=decide_eq_false (by omega)
 refine rgo (an4 d1 d28 d16 d15) ?_
 refine rq ?_;intro gd K hgd hK
 try simp (disch:=first|omega|assumption|rfl) only[go_sem,Nat.zero_add]
 refine Fn.mono (zhC w3 T) ?_
 rintro _ wo ⟨rfl,hEo⟩
 rw[hsh]
 unfold zd0
 simp only
 try simp only[go_sem]
 refine zer (cs:=#[vi ns.length,vi us.length,vi 0,vi 0]) rfl rfl rfl rfl (vr0) rfl ?_
 try simp only[go_sem]
 refine hK _ _ ?_;clear hK hgd;clear K;try clear gd
 replace hR3:=hR3.extx hEo
 have hB3':=Ext.at hEo hB3
 refine go trivial ?_
 refine zbs ns.length (fun i σ v=>(σ 0= .pointer (some ⟨b,0,Option.none⟩)∧σ 1=vi T∧σ 4= .pointer (some ⟨w.heap.size,0,Option.none⟩)∧σ 5= .pointer (some ⟨P,0,Option.none⟩)∧σ 18=vi ns.length∧σ 19=vi i)∧Rdr W0 v b ((ns.drop i).map (fun n=>(zaT n,false))++us.map fun m=>(numT m,false)) ov 0∧Keep (fun i=>i=b∨i=P) w3 v∧∃nv nvals,v.heap[P]? =some (.cells [vi T,nv,.slice Option.none 0 0,.slice Option.none 0 0,.slice Option.none 0 0].toArray 33 (0,0))∧Own w3.heap.size v 24 nv nvals∧nvals.length=i∧∀j (h:j<nvals.length) (h':j<ns.length),Hz (fun i=>i<w3.heap.size∨some i=nv.ownBlock) v (fun X=>Row X nvals[j] (ns[j].map vs))) ?_ ?_ ?_
 ·exact⟨⟨vr0,vr0,vr0,vr0,vr0,vr0⟩,hR3,hEo.mono fun _ _ h=>h.elim,_,[],hB3',Own.nil _ _ _,rfl,fun j h=>absurd h (by simp)⟩
 ·rintro i σ v hi ⟨r1,r2,r3,r4⟩ ⟨⟨s0,s1,s4,s5,s18,s19⟩,hR,hk,nv,nvals,hB,hown,hnl,hnr⟩
  obtain⟨n,hn⟩:∃n,ns[i]=n:=⟨_,rfl⟩
  rw[List.drop_eq_getElem_cons hi,hn,List.map_cons,List.cons_append]at hR
  have hnm:=hN n (hn▸List.getElem_mem hi)
  have qf:zag v (some ⟨P,1,Option.none⟩)=some nv:=zaG (j:=1) hB rfl
  have hvs:=hk.size
  have hPv:P<v.heap.size:=(Array.getElem?_eq_some_iff.1 hB).1
  refine go (an4 s0 s18 s19 r1) ?_
  refine zaY (fun i=>i==7) [(0,true),(1,true),(2,true),(3,false),(4,false),(5,false),(6,true),(7,false)] ((fun i=>i=b∨w3.heap.size≤i)) mixed (by kernel_rfl) ?_;intro gd K x hgd hx hxe hK;have hx0:=zaW hxe;clear hxe
  have qx:=zaa hx0 qf
  have hsx:=hx0.size
  simp (disch:=first|omega|assumption|rfl) only[go_sem,s0,s5,qx,Nat.zero_add]
  refine⟨fun a ha hb'=>by cases ha;dsimp only at hb';omega,?_⟩
  refine Fn.mono (zhF (hR.extx hx0) (by simp;omega) hnm.2.1 ho hoT) ?_
  rw[hnm.1]
  rintro fv y1 ⟨hrow,hbk,hR1,hk1⟩
  rw[show zaO (if false=true then zaO 0 2 else 0) ((n,0):Nm×Int).2=0 from rfl]at hR1
  refine⟨.inr (hk1.mono fun i _ h=> .inl h),?_⟩
  obtain⟨fva,fvc,hfve,_⟩:=id hrow
  simp (disch:=first|omega|assumption|rfl) only[go_sem]
  refine zbb (z:= .slice Option.none 0 0) (v:=fv) rfl rfl rfl rfl (by rw[hfve];rfl) ?_
  intro y2 hy2 hys2 hyo
  refine⟨.inr hy2.keep,?_⟩
  simp (disch:=first|omega|assumption|rfl) only[go_sem]
  have hsy1:=hk1.size
  have hsy2:=hy2.size
  have hownY:=((hown.ext hx0).keep hk1 fun j hj hs=>by have:=(hown.ge hj).1;omega).ext hy2
  refine zaN (e:=24) hownY hyo.row rfl rfl rfl rfl rfl rfl (vr0) (vr0) (fun q hq=>by rw[List.mem_singleton.1 hq];rw[hfve];rfl) (by rw[List.length_singleton];omega) (by decide) (by omega) ?_
  intro nv' y3 hown3 hX3 hK3 hb3
  refine⟨.inr (hK3.mono fun j _ hj=> .inr (hownY.ge hj).1),?_⟩
  simp (disch:=first|omega|assumption|rfl) only[go_sem,s5,Nat.zero_add]
  have hsK:=hK3.size
  obtain⟨a7,c7,hnv7⟩:=hown3.slice
  have hBP3:y3.heap[P]? =_:=(hK3.block P (by omega) (fun h=>by have:=(hownY.ge h).1;omega)).trans ((hy2.block P (by omega) (fun h=>h)).trans ((hk1.block P (by omega) (by omega)).trans (Ext.at hx0 hB)))
  refine zbQ (P:=Tryz.prog) (t:=29) (j:=1) (u:=nv') hBP3 (by simp) (by rw[hnv7];rfl) rfl rfl ?_
  intro z hzs hBz hkz
  refine⟨.inl rfl,?_⟩
  simp (disch:=first|omega|assumption|rfl) only[go_sem]
  refine hK _ _ ?_;clear hK hgd;clear K;try clear gd
  simp only[List.set_cons_zero,List.set_cons_succ]at hBz
  have hob:∀i,i<y2.heap.size→(i<w3.heap.size∨some i=nv'.ownBlock)→(i<w3.heap.size∨some i=nv.ownBlock):=fun i hi h=>by
   rcases h with h|h
   ·exact .inl h
   ·rcases hb3 i h with h|h
    ·exact .inr h
    ·omega
  have mv:∀{P':World→Prop},Hz (fun i=>i<w3.heap.size∨some i=nv.ownBlock) v P'→Hz (fun i=>i<w3.heap.size∨some i=nv'.ownBlock) z P':=fun h=>
   ((((h.ext hx0).app hk1 (fun i _ hi=> .inl (by omega)) (fun i _ hi=>hi)).ext hy2).app hK3 (fun i _ hi=> .inr hi) hob).app hkz (fun i _ hi=> .inl (by omega)) (fun i _ hi=>hi)
  have hkf:Keep (fun i=>i=b∨i=P) w3 z:=((((hk.trans (hx0.mono fun _ _ h=>h.elim)).trans (hk1.mono fun _ _ h=> .inl h)).trans (hy2.mono fun _ _ h=>h.elim)).own hK3 fun j hj h=>by have:=(hownY.ge h).1;omega).trans (hkz.mono fun _ _ h=> .inr h)
  have hRz:Rdr W0 z b _ ov 0:=((hR1.extx hy2).keep hK3 fun j hj=>by have:=(hownY.ge hj).1;omega).keep hkz fun j hj=>by omega
  have hoz:=hown3.keep hkz fun j hj hs=>by have:=(hown3.ge hj).1;omega
  refine go (an9 s0 s1 s4 s5 s18 s19 r4 trivial trivial) ?_
  refine⟨rfl,⟨(vq1 s0),(vq1 s1),(vq1 s4),(vq1 s5),(vq1 s18),(vq1 r4)⟩,hRz,hkf,nv',nvals++ [fv],hBz,hoz,by simp;omega,fun j h h'=>?_⟩
  by_cases hj:j<nvals.length
  ·rw[List.getElem_append_left hj]
   exact mv (hnr j hj h')
  ·have hjk:j=i:=by simp at h;omega
   subst hjk
   rw[List.getElem_append_right (by omega)]
   simp only[hnl,Nat.sub_self,List.getElem_cons_zero,hn]
   have hrz:Row z fv (n.map vs):=by
    refine Row.blocks (w:=y3) (Row.blocks (w:=y2) (hrow.ext hy2) fun a n' c hv=>?_) fun a n' c hv=>?_
    ·have h2:=hbk a n' c hv
     exact hK3.block _ (by omega) (fun hh=>by have:=(hown.ge hh).2;omega)
    ·have h2:=hbk a n' c hv
     exact hkz.block _ (by omega) (by omega)
   refine row_hz hrz fun a n' c hv=>?_
   have h2:=hbk a n' c hv
   refine⟨by omega,?_⟩
   rintro(h3|h3)
   ·omega
   ·rcases hb3 _ h3 with h3|h3
    ·have:=(hown.ge h3).2;omega
    ·omega
 rintro σ v r ⟨⟨s0,s1,s4,s5,s18,s19⟩,hR,hk,nmv,nvals,hB,hown,hnl2,hnr⟩
 have hNz:Hz (fun i=>i<w3.heap.size∨some i=(Value.slice Option.none 0 0).ownBlock) v (fun X=>NamesAt X nmv ns):=fun X hX=>by
  refine⟨nvals,(hown.keep hX fun i hi hs=>?_).row,hnl2,fun j h h'=>hnr j h h' X (hX.mono fun i _ hi=>?_)⟩
  ·have:=(hown.ge hi).1
   rcases hs with hs|hs
   ·omega
   ·cases hs
  ·rcases hi with hi|hi
   ·exact .inl hi
   ·cases hi
 rw[List.drop_length,List.map_nil,List.nil_append]at hR
 refine go (an6 s0 s1 s4 s5 s18 (an2 s19 r)) ?_
 refine rq ?_;intro gd K hgd hK
 try simp (disch:=first|omega|assumption|rfl) only[go_sem,s1]
 refine Fn.mono (zhC v T) ?_
 rintro _ vo ⟨rfl,hEo⟩
 rw[hsh]
 unfold zd0
 simp only
 try simp only[go_sem]
 refine zer (cs:=#[vi ns.length,vi us.length,vi 0,vi 0]) rfl rfl rfl rfl (vr0) rfl ?_
 try simp only[go_sem]
 refine hK _ _ ?_;clear hK hgd;clear K;try clear gd
 replace hNz:=hNz.ext hEo
 refine go (an4 s0 s1 s4 s5) ?_
 refine zbs us.length (fun i σ v=>(σ 0= .pointer (some ⟨b,0,Option.none⟩)∧σ 1=vi T∧σ 4= .pointer (some ⟨w.heap.size,0,Option.none⟩)∧σ 5= .pointer (some ⟨P,0,Option.none⟩)∧σ 31=vi us.length∧σ 32=vi i)∧Rdr W0 v b ((us.drop i).map fun m=>(numT m,false)) ov 0∧Keep (fun i=>i=b∨i=P) w3 v∧∃nv nvals,v.heap[P]? =some (.cells [vi T,nmv,nv,.slice Option.none 0 0,.slice Option.none 0 0].toArray 33 (0,0))∧Own w3.heap.size v 28 nv nvals∧nvals.length=i∧nvals=(us.take i).map v32∧Hz (fun i=>i<w3.heap.size∨some i=nv.ownBlock) v (fun X=>NamesAt X nmv ns)) ?_ ?_ ?_
 ·exact⟨⟨(vr1 s0),(vr1 s1),(vr1 s4),(vr1 s5),vr0,vr0⟩,hR.extx hEo,hk.trans (hEo.mono fun _ _ h=>h.elim),_,[],Ext.at hEo hB,Own.nil _ _ _,rfl,rfl,hNz⟩
 clear s0 s1 s4 s5 s18 s19 r hR hk hB
 ·rintro i σ v hi ⟨r1,r2,r3,r4⟩ ⟨⟨s0,s1,s4,s5,s18,s19⟩,hR,hk,nv,nvals,hB,hown,hnl,hnr,hNz⟩
  obtain⟨n,hn⟩:∃n,us[i]=n:=⟨_,rfl⟩
  rw[List.drop_eq_getElem_cons hi,hn,List.map_cons]at hR
  have hnm:=hNu n (hn▸List.getElem_mem hi)
  have qf:zag v (some ⟨P,2,Option.none⟩)=some nv:=zaG (j:=2) hB rfl
  have hvs:=hk.size
  have hPv:P<v.heap.size:=(Array.getElem?_eq_some_iff.1 hB).1
  refine go (an4 s0 s18 s19 r1) ?_
  refine zaY (fun i=>i==7) [(0,true),(1,true),(2,true),(3,false),(4,false),(5,false),(6,true),(7,false)] ((fun i=>i=b∨w3.heap.size≤i)) mixed (by kernel_rfl) ?_;intro gd K x hgd hx hxe hK;have hx0:=zaW hxe;clear hxe
  have qx:=zaa hx0 qf
  have hsx:=hx0.size
  simp (disch:=first|omega|assumption|rfl) only[go_sem,s0,s5,qx,Nat.zero_add]
  refine⟨fun a ha hb'=>by cases ha;dsimp only at hb';omega,?_⟩
  refine Fn.mono (num_ok hW (hR.extx hx0) (by simp;omega) (by have:=hnm.2;omega) 4294967295 (by decide)) ?_
  rw[hnm.1.1]
  rintro fv y1 ⟨hfv,hR1,hk1⟩
  rw[show zaO (if false=true then zaO 0 2 else 0) ((n.toNat,0):Nat×Int).2=0 from rfl]at hR1
  rw[show (((n.toNat,0):Nat×Int).1:Int)=n from hnm.1.2]at hfv
  subst hfv
  refine⟨.inr (hk1.mono fun i _ h=> .inl h),?_⟩
  simp (disch:=first|omega|assumption|rfl) only[go_sem]
  refine zbb (z:=v32 0) rfl rfl rfl rfl rfl ?_
  intro y2 hy2 hys2 hyo
  refine⟨.inr hy2.keep,?_⟩
  simp (disch:=first|omega|assumption|rfl) only[go_sem]
  have hsy1:=hk1.size
  have hsy2:=hy2.size
  have hownY:=((hown.ext hx0).keep hk1 fun j hj hs=>by have:=(hown.ge hj).1;omega).ext hy2
  refine zaN (e:=28) hownY hyo.row rfl rfl rfl rfl rfl rfl (vr0) (vr0) (fun q hq=>by rw[List.mem_singleton.1 hq];rfl) (by rw[List.length_singleton];omega) (by decide) (by omega) ?_
  intro nv' y3 hown3 hX3 hK3 hb3
  refine⟨.inr (hK3.mono fun j _ hj=> .inr (hownY.ge hj).1),?_⟩
  simp (disch:=first|omega|assumption|rfl) only[go_sem,s5,Nat.zero_add]
  have hsK:=hK3.size
  obtain⟨a7,c7,hnv7⟩:=hown3.slice
  have hBP3:y3.heap[P]? =_:=(hK3.block P (by omega) (fun h=>by have:=(hownY.ge h).1;omega)).trans ((hy2.block P (by omega) (fun h=>h)).trans ((hk1.block P (by omega) (by omega)).trans (Ext.at hx0 hB)))
  refine zbQ (P:=Tryz.prog) (t:=30) (j:=2) (u:=nv') hBP3 (by simp) (by rw[hnv7];rfl) rfl rfl ?_
  intro z hzs hBz hkz
  refine⟨.inl rfl,?_⟩
  simp (disch:=first|omega|assumption|rfl) only[go_sem]
  refine hK _ _ ?_;clear hK hgd;clear K;try clear gd
  simp only[List.set_cons_zero,List.set_cons_succ]at hBz
  have hob:∀i,i<y2.heap.size→(i<w3.heap.size∨some i=nv'.ownBlock)→(i<w3.heap.size∨some i=nv.ownBlock):=fun i hi h=>by
   rcases h with h|h
   ·exact .inl h
   ·rcases hb3 i h with h|h
    ·exact .inr h
    ·omega
  have mv:∀{P':World→Prop},Hz (fun i=>i<w3.heap.size∨some i=nv.ownBlock) v P'→Hz (fun i=>i<w3.heap.size∨some i=nv'.ownBlock) z P':=fun h=>
   ((((h.ext hx0).app hk1 (fun i _ hi=> .inl (by omega)) (fun i _ hi=>hi)).ext hy2).app hK3 (fun i _ hi=> .inr hi) hob).app hkz (fun i _ hi=> .inl (by omega)) (fun i _ hi=>hi)
  have hkf:Keep (fun i=>i=b∨i=P) w3 z:=((((hk.trans (hx0.mono fun _ _ h=>h.elim)).trans (hk1.mono fun _ _ h=> .inl h)).trans (hy2.mono fun _ _ h=>h.elim)).own hK3 fun j hj h=>by have:=(hownY.ge h).1;omega).trans (hkz.mono fun _ _ h=> .inr h)
  have hRz:Rdr W0 z b _ ov 0:=((hR1.extx hy2).keep hK3 fun j hj=>by have:=(hownY.ge hj).1;omega).keep hkz fun j hj=>by omega
  have hoz:=hown3.keep hkz fun j hj hs=>by have:=(hown3.ge hj).1;omega
  refine go (an9 s0 s1 s4 s5 s18 s19 r4 trivial trivial) ?_
  exact⟨rfl,⟨(vq1 s0),(vq1 s1),(vq1 s4),(vq1 s5),(vq1 s18),(vq1 r4)⟩,hRz,hkf,nv',nvals++ [v32 n],hBz,hoz,by simp;omega,by rw[hnr,zal hi,hn,List.map_append];rfl,mv hNz⟩
 clear hNz hB hR hk s0 s1 s4 s5 s18 s19 r
 rintro σ z r ⟨⟨s0,s1,s4,s5,s18,s19⟩,hR,hk,nuv,uvals,hB,hownU,hul2,hur,hNz⟩
 rw[List.drop_length,List.map_nil]at hR
 rw[List.take_length]at hur
 subst hur
 obtain⟨una,unc,hnuv⟩:=hownU.slice
 obtain⟨_,hnmr,_,_⟩:=hNz.now
 have q5:=zam (n:=5) hB rfl
 have hks:=hk.size
 refine go (an6 s0 s4 s5 s18 s19 r) ?_
 refine rq ?_;intro gd K hgd hK
 try simp (disch:=first|omega|assumption|rfl) only[go_sem,s4,s5,q5]
 have hA5:z.heap[w.heap.size]? =_:=(hk.block _ (by omega) (by omega)).trans (Ext.at (hE2.trans hE3) hA)
 refine zaI (P:=Tryz.prog) (t:=33) (l:=[vi T,nmv,nuv,.slice Option.none 0 0,.slice Option.none 0 0]) hA5 rfl (zbS _ _ _ _ _ hnmr.isOne (by rw[hnuv];rfl) rfl rfl) rfl rfl ?_
 intro w6 hs6 hB6 hk6
 try simp only[go_sem]
 refine hK _ _ ?_;clear hK hgd;clear K;try clear gd
 refine go trivial ?_
 refine zae (.inr rfl) Tryz.ntmps106 rfl (zaK (x:=⟨w.heap.size,0,Option.none⟩) (k:=5) ((vr1 s4)) rfl rfl (zam hB6 rfl) zad) ?_
 have hE13:=(hE1.trans hE2).trans hE3
 refine⟨⟨nmv,nuv,rfl,(hownU.keep hk6 fun i hi hs=>by have:=(hownU.ge hi).1;omega).mono (by omega),hNz.app hk6 (fun i _ hi=> .inl (by omega)) (fun i _ hi=> .inl (by omega))⟩,hR.keep hk6 fun i hi=>by omega,?_⟩
 exact(((hE13.mono fun _ _ h=>h.elim):Keep (fun i=>i=b) w w3).own hk fun i hi h=>by omega).own hk6 fun i hi h=>by omega
theorem zbE{d:DatL}(h:zaX d=0):(1≤d.ty∧d.ty≤65535)∧zbk d=true∧(∀n∈d.names,zaD n=0)∧(d.ty=15→d.nums.headD 0≤65535)∧d.raw.length≤1024∧∀t∈d.texts,t.length≤255:=by
 unfold zaX at h
 split at h
 ·cases h
 ·rename_i h1
  split at h
  ·cases h
  ·rename_i h2
   split at h
   ·rename_i n hn
    have:=List.find?_some hn
    simp[h]at this
   ·rename_i hn
    rw[List.find?_eq_none]at hn
    split at h
    ·cases h
    ·rename_i h3
     split at h
     ·cases h
     ·rename_i h4
      refine⟨by omega,by simpa using h2,fun n hm=>by simpa using hn n hm,fun h=>by omega,by omega,fun t ht=>?_⟩
      have h5:¬zcy d.texts=true:=fun e=>h4 (.inr e)
      unfold zcy at h5
      rw[List.any_eq_true]at h5
      by_cases h6:t.length≤255
      ·exact h6
      ·exact absurd ⟨t,ht,decide_eq_true (by omega)⟩ h5
theorem ze4{c:UInt8}{ps:List Lab}{Q:UInt8→Prop}(hc:Q c)(h:∀p∈ps,∀x∈p,Q x):∀x∈zaM [c] ps,Q x:=fun x hx=>by
 cases ps with
 |nil=>cases hx
 |cons p r=>
  rcases List.mem_append.1 (show x∈p++r.flatMap fun y=>[c]++y from hx) with h1|h1
  ·exact h p (List.mem_cons_self ..) x h1
  ·obtain⟨y,hy,hxy⟩:=List.mem_flatMap.1 h1
   rcases List.mem_append.1 hxy with h2|h2
   ·rw[List.mem_singleton.1 h2];exact hc
   ·exact h y (List.mem_cons_of_mem _ hy) x h2
theorem zgg{c:UInt8}{ps:List Lab}(h0:ps≠ [])(h:∀p∈ps,p≠ []):zaM [c] ps≠ []:=by
 cases ps with
 |nil=>exact absurd rfl h0
 |cons p r=>
  intro e
  have:=List.append_eq_nil_iff.1 (show p++r.flatMap (fun y=>[c]++y)=[] from e)
  exact h p (List.mem_cons_self ..) this.1
theorem zfB{p:Lab}{q:Bool}{r:List (Lab×Bool)}(h:q=true∨p≠ [92,35]):zbx ((p,q)::r)=false:=by
 show decide ((p,q)=(([92,35]:Lab),false))=false
 refine decide_eq_false fun e=>?_
 have e1:=congrArg Prod.fst e
 have e2:=congrArg Prod.snd e
 rcases h with h|h
 ·rw[h]at e2;cases e2
 ·exact h e1
theorem zev{p:Lab}{r:List (Lab×Bool)}(h:∀c∈p,c≠92):zbx ((p,false)::r)=false:=zfB (.inr fun e=>h 92 (by rw[e];simp) rfl)
theorem text_few{n:Nm}(h:zaD n=0):(zaT n).length≤2000:=by
 have h1:=(zdG h).2
 have h2:=zdn n
 have h3:∀n:Nm,(n.map fun l=>1+l.length).sum=(n.map List.length).sum+n.length:=fun n=>by
  induction n with
  |nil=>rfl
  |cons l n ih=>simp only[List.map_cons,List.sum_cons,List.length_cons,ih];omega
 have h4:=h3 n
 unfold lenN at h1
 unfold zaT
 split
 ·decide
 ·omega
theorem SplC.p{s:Lab}{ps:List Lab}(h:SplC 46 s ps):SplP s ps:=⟨h.sp,h.ct⟩
theorem octP_dec(c:UInt8):octP (Lib.decDigits c.toNat)=zak c:=by
 have hc:=c.toNat_lt
 unfold octP
 rw[zcF (by omega)]
 simp
theorem zfc:∀l:List UInt8,zfd 0 (l.map fun c=>Lib.decDigits c.toNat)=0
 | []=>rfl
 |c::l=>by
  have hc:=c.toNat_lt
  have ih:=zfc l
  unfold zfd at*
  rw[List.map_cons,List.foldl_cons,zcF (by omega)]
  exact ih
theorem zd6{α β:Type}{f g:α→List β}:∀{l:List α},(∀x∈l,f x=g x)→l.flatMap f=l.flatMap g
 | [],_=>rfl
 |x::l,h=>by rw[List.flatMap_cons,List.flatMap_cons,h x (List.mem_cons_self ..),zd6 fun y hy=>h y (List.mem_cons_of_mem _ hy)]
theorem zhu(raw:List UInt8)(h:raw.length=16):(List.range 8).flatMap (fun i=>[raw.getD (2*i) 0,raw.getD (2*i+1) 0])=raw:=by
 iterate 16 (rcases raw with _| ⟨a,raw⟩;· exact absurd h (by simp))
 rcases raw with _| ⟨a,raw⟩
 ·rfl
 ·exact absurd h (by simp)
section
variable {w : World} {wv : Value} {oa : Option Addr} {on oc : Nat} {o : Nm} {d : DatL}
theorem back1(hW:WX w)(hc:zaX d=0)(ht:d.ty=1)(hr:Rows 2 WdC w wv (wF false (za1 hexU d) [] false)):Fn Tryz.prog 38 #[vi d.ty,wv,.slice oa on oc] w (fun v w'=>Ext w w'∧∃cs:List Value,v= .tuple #[.agg cs.toArray,vi 0]∧GD d w.heap.size cs w'):=by
 obtain⟨⟨t1,t2⟩,hf,hnm,_,_,_⟩:=zbE hc
 obtain⟨h1,h2,h3,h4⟩:=za9 hf (a:=0) (c:=0) (r:=4) (by rw[ht];rfl)
 have h4:=h4 (by decide)
 have e1:=zaV h1
 have e2:=zaV h2
 obtain⟨ps,hps⟩:∃ps,(d.raw.map fun c=>Lib.decDigits c.toNat)=ps:=⟨_,rfl⟩
 have hp4:ps.length=4:=by rw[←hps,List.length_map];omega
 have hpd:∀p∈ps,p≠ []∧p.length≤20∧∀c∈p,digB c=true:=fun p hp=>by
  rw[←hps]at hp
  obtain⟨c,_,rfl⟩:=List.mem_map.1 hp
  have hcl:=c.toNat_lt
  exact⟨zgn _,by have:=zcp 19 c.toNat (by omega);omega,zdf _⟩
 have hch:∀c∈zaM [46] ps,c≠92∧c≠34∧c≠32:=ze4 (by decide) fun p hp c hc=>by
  have:=zcE ((hpd p hp).2.2 c hc)
  exact⟨this.1,this.2.1,this.2.2.1⟩
 have hne:zaM [46] ps≠ []:=zgg (fun e=>by rw[e]at hp4;cases hp4) fun p hp=>(hpd p hp).1
 have hlen:(zaM [46] ps).length≤1000:=by
  have:=zey [46] ps
  have h2:=zbq (m:=20) (l:=ps) fun p hp=>(hpd p hp).2.1
  simp at this;omega
 rw[tx_one hf ht,hps,zcP (zeg hne hch)]at hr
 have hsp:SplC 46 (zaM [46] ps) ps:=by
  cases ps with
  |nil=>cases hp4
  |cons p r=>exact zdq 46 r p fun x hx e=>absurd ((hpd x hx).2.2 46 e) (by decide)
 rw[ht]
 refine PkG (by decide) (by decide) hr fun b w1 h=>?_
 rw[if_neg (by rw[zev fun c hc=>(hch c hc).1];decide)]
 refine Fn.mono (zfy hW h (by omega) hsp.p (by omega) fun p hp=>by have:=(hpd p hp).2.1;omega) ?_
 rintro _ w' ⟨⟨rv,rfl,hown⟩,hR,hk⟩
 rw[if_pos hp4,if_neg (by decide),←hps,zfc]at hR
 have hrow:ps.map octP=d.raw.map zak:=by
  rw[←hps,List.map_map]
  exact List.map_congr_left fun c _=>octP_dec c
 rw[hrow]at hown
 exact⟨⟨_,rfl,fun X hX=>⟨_,_,_,_,by rw[ht],by rw[e1];exact za4 X,by rw[e2];exact zaS X,by rw[h3];exact zaS X,zbM hown X hX⟩⟩,hR,hk⟩
theorem back28(hW:WX w)(hc:zaX d=0)(ht:d.ty=28)(hr:Rows 2 WdC w wv (wF false (za1 hexU d) [] false)):Fn Tryz.prog 38 #[vi d.ty,wv,.slice oa on oc] w (fun v w'=>Ext w w'∧∃cs:List Value,v= .tuple #[.agg cs.toArray,vi 0]∧GD d w.heap.size cs w'):=by
 obtain⟨⟨t1,t2⟩,hf,hnm,_,_,_⟩:=zbE hc
 obtain⟨h1,h2,h3,_⟩:=za9 hf (a:=0) (c:=0) (r:=16) (by rw[ht];rfl)
 have e1:=zaV h1
 have e2:=zaV h2
 obtain⟨h16,htx⟩:=tx_28 hf ht
 obtain⟨ps,hps⟩:∃ps,(List.range 8).map (zhv d.raw)=ps:=⟨_,rfl⟩
 have hp8:ps.length=8:=by rw[←hps];rfl
 have hpd:∀p∈ps,p≠ []∧p.length≤4∧∀c∈p,∃j,j<16∧c=hexD j:=fun p hp=>by
  rw[←hps]at hp
  obtain⟨i,_,rfl⟩:=List.mem_map.1 hp
  unfold zhv
  have g1:=(d.raw.getD (2*i) 0).toNat_lt
  have g2:=(d.raw.getD (2*i+1) 0).toNat_lt
  exact⟨hexU_ne _,zdd 3 _ (by omega),zgj _ _ (Nat.le_refl _)⟩
 have hpc:∀p∈ps,∀c∈p,c≠92∧c≠34∧c≠32∧c≠58∧c∈digs16∧(hexV c).isSome=true:=fun p hp c hc=>by
  obtain⟨j,hj,rfl⟩:=(hpd p hp).2.2 c hc
  obtain⟨a1,a2,a3,a4,a5,a6⟩:=zb9 j hj
  exact⟨a4,a5,a6,a3,a2,by rw[a1];rfl⟩
 have hch:∀c∈zaM [58] ps,c≠92∧c≠34∧c≠32:=ze4 (by decide) fun p hp c hc=>by
  have:=hpc p hp c hc
  exact⟨this.1,this.2.1,this.2.2.1⟩
 have hne:zaM [58] ps≠ []:=zgg (fun e=>by rw[e]at hp8;cases hp8) fun p hp=>(hpd p hp).1
 have hlen:(zaM [58] ps).length≤1000:=by
  have:=zey [58] ps
  have h2:=zbq (m:=4) (l:=ps) fun p hp=>(hpd p hp).2.1
  simp at this;omega
 rw[htx,hps,zcP (zeg hne hch)]at hr
 have hsp:SplC 58 (zaM [58] ps) ps:=by
  cases ps with
  |nil=>cases hp8
  |cons p r=>exact zdq 58 r p fun x hx e=>(hpc x hx 58 e).2.2.2.1 rfl
 rw[ht]
 refine PkG (by decide) (by decide) hr fun b w1 h=>?_
 rw[if_neg (by rw[zev fun c hc=>(hch c hc).1];decide)]
 refine Fn.mono (own28_ok hW h (by omega) hsp hp8 fun p hp=>⟨(hpd p hp).1,(hpd p hp).2.1,fun c hc=>(hpc p hp c hc).2.2.2.2⟩) ?_
 rintro _ w' ⟨⟨rv,rfl,hown⟩,hR,hk⟩
 have hrow:ps.flatMap ze1=d.raw:=by
  rw[←zhu d.raw h16,←hps,List.flatMap_map]
  refine zd6 fun i _=>?_
  have g1:=(d.raw.getD (2*i) 0).toNat_lt
  have g2:=(d.raw.getD (2*i+1) 0).toNat_lt
  unfold ze1 zhv
  rw[zgi _ _ (Nat.le_refl _)]
  rw[show ((d.raw.getD (2*i) 0).toNat*256+(d.raw.getD (2*i+1) 0).toNat) / 256=(d.raw.getD (2*i) 0).toNat by omega,show((d.raw.getD (2*i) 0).toNat*256+(d.raw.getD (2*i+1) 0).toNat) % 256=(d.raw.getD (2*i+1) 0).toNat by omega]
  simp
 rw[hrow]at hown
 exact⟨⟨_,rfl,fun X hX=>⟨_,_,_,_,by rw[ht],by rw[e1];exact za4 X,by rw[e2];exact zaS X,by rw[h3];exact zaS X,zbM hown X hX⟩⟩,hR,hk⟩
theorem back16(hc:zaX d=0)(ht:d.ty=16)(hr:Rows 2 WdC w wv (wF false (za1 hexU d) [] false)):Fn Tryz.prog 38 #[vi d.ty,wv,.slice oa on oc] w (fun v w'=>Ext w w'∧∃cs:List Value,v= .tuple #[.agg cs.toArray,vi 0]∧GD d w.heap.size cs w'):=by
 obtain⟨⟨t1,t2⟩,hf,hnm,_,_,htl⟩:=zbE hc
 obtain⟨h1,h2,h3,h4⟩:=zcU hf
 unfold txD at h3
 unfold rwD at h4
 rw[ht]at h1 h2 h3 h4
 have e1:=zaV h1
 have e2:=zaV h2
 have e4:=zaV (show(d.raw.length:Int)=0 from h4)
 rw[if_pos (by decide)]at h3
 rw[tx_16 hf ht,zg6]at hr
 rw[ht]
 refine PkG (by decide) (by decide) hr fun b w1 h=>?_
 have hne:d.texts≠ []:=fun e=>by rw[e,List.length_nil]at h3;omega
 have hmk:zbx (d.texts.map fun t=>(quoL t,true))=false:=by
  cases hx:d.texts with
  |nil=>exact absurd hx hne
  |cons t r=>exact zfB (.inl rfl)
 rw[if_neg (by rw[hmk];decide)]
 refine Fn.mono (zgb h (by rw[List.length_map];omega) (by rw[List.length_map];omega) fun x hx=>?_) ?_
 ·obtain⟨t,htm,rfl⟩:=List.mem_map.1 hx
  have:=htl t htm
  have h5:=zda t
  show(quoL t).length≤_
  omega
 rintro _ w' ⟨⟨tv,rfl,hown⟩,hR,hk⟩
 have hun:∀t,unD [] 0 (quoL t) []=(t,0):=fun t=>by rw[zhd,List.nil_append]
 have herr:zeB 0 (d.texts.map fun t=>(quoL t,true))=0:=by
  have:∀l:List Lab,(∀t∈l,t.length≤255)→zeB 0 (l.map fun t=>(quoL t,true))=0:=fun l=>by
   induction l with
   |nil=>intro _;rfl
   |cons t l ih=>
    intro h
    have h6:errT (quoL t)=0:=by
     unfold errT
     rw[hun]
     have:=h t (List.mem_cons_self ..)
     show(if (0:Int)=0∧255<t.length then(3:Int) else 0)=0
     rw[if_neg (by omega)]
    have ih':=ih fun x hx=>h x (List.mem_cons_of_mem _ hx)
    unfold zeB at*
    rw[List.map_cons,List.foldl_cons,h6]
    exact ih'
  exact this _ htl
 rw[herr]at hR
 have hrow:((d.texts.map fun t=>(quoL t,true)).map fun x=>untT x.1)=d.texts:=by
  rw[List.map_map]
  have:∀t∈d.texts,((fun x:Lab×Bool=>untT x.1)∘fun t=>(quoL t,true)) t=t:=fun t _=>by
   show(unD [] 0 (quoL t) []).1=t
   rw[hun]
  rw[List.map_congr_left this,List.map_id']
 rw[hrow]at hown
 exact⟨⟨_,rfl,fun X hX=>⟨_,_,_,_,by rw[ht],by rw[e1];exact za4 X,by rw[e2];exact zaS X,zbM hown X hX,by rw[e4];exact zaS X⟩⟩,hR,hk⟩
theorem back15(hW:WX w)(ho:Row w (.slice oa on oc) (o.map vs))(hoT:NmT o)(hc:zaX d=0)(hT:DatT d)(ht:d.ty=15)(hr:Rows 2 WdC w wv (wF false (za1 hexU d) [] false)):Fn Tryz.prog 38 #[vi d.ty,wv,.slice oa on oc] w (fun v w'=>Ext w w'∧∃cs:List Value,v= .tuple #[.agg cs.toArray,vi 0]∧GD d w.heap.size cs w'):=by
 obtain⟨_,hf,hnm,hmx,_,_⟩:=zbE hc
 obtain⟨m,n,hm,hn,htx⟩:=tx_15 hf ht
 obtain⟨h1,h2,h3,h4⟩:=za9 hf (a:=1) (c:=1) (r:=0) (by rw[ht];rfl)
 have e4:=zaV (h4 (by decide))
 have hm2:m≤65535:=by have:=hmx ht;rw[hm]at this;exact this
 have hm1:=hT.s.nv m (by rw[hm];simp)
 have hn0:=hnm n (by rw[hn];simp)
 have hnS:=hT.s.names n (by rw[hn];simp)
 have hx:=text_few hn0
 have hnl:=zet hm1.2
 obtain⟨k,rfl⟩:∃k:Nat,m=(k:Int):=⟨m.toNat,by omega⟩
 have hdk:decP 65535 (numT (k:Int))=(k,0):=zcF (by omega)
 have hd:∀c∈numT (k:Int),c≠92:=fun c hc=>(zcE (zdf k c hc)).1
 rw[htx,List.append_assoc,zdk (show Tok (numT (k:Int)) from zeh k),zcP (zf3 n)]at hr
 rw[ht]
 refine PkG (by decide) (by decide) hr fun b w1 h=>?_
 rw[if_neg (by rw[zev hd];decide)]
 refine Fn.mono (zgc (e1:=0) (e2:=0) hW h (by have:(numT (k:Int)).length≤20:=hnl;omega) (by omega) ho hoT (by rw[hdk];rfl) (by rw[zdu hn0];rfl)) ?_
 rintro _ w' ⟨⟨nmv,nuv,nv,rfl,a1,a2,a3,a4⟩,hR,hk⟩
 rw[show (zbT (zaT n) o).1=n from by rw[zdu hn0]]at a3
 rw[hdk]at a1
 refine⟨⟨_,rfl,fun X hX=>⟨_,_,_,_,by rw[ht],?_,by rw[hm];exact zbM a1 X hX,by rw[h3];exact zaS X,by rw[e4];exact zaS X⟩⟩,hR,hk⟩
 rw[hn]
 exact zeZ (zbM a2 X hX) (a3.blocks fun a n c hv=>hX.block _ (a4 a n c hv).2 (by have:=(a4 a n c hv).1;omega))
theorem backN(hW:WX w)(ho:Row w (.slice oa on oc) (o.map vs))(hoT:NmT o)(hc:zaX d=0)(hT:DatT d)(ht:d.ty=2∨d.ty=5∨d.ty=12∨d.ty=39∨d.ty=6)(hr:Rows 2 WdC w wv (wF false (za1 hexU d) [] false)):Fn Tryz.prog 38 #[vi d.ty,wv,.slice oa on oc] w (fun v w'=>Ext w w'∧∃cs:List Value,v= .tuple #[.agg cs.toArray,vi 0]∧GD d w.heap.size cs w'):=by
 obtain⟨⟨t1,t2⟩,hf,hnm,_,_,_⟩:=zbE hc
 obtain⟨a,c,hsh,hac⟩:∃a c:Int,zat d.ty=(a,c,0,0)∧1≤a∧a≤5∧0≤c∧c≤5:=by
  rcases ht with h|h|h|h|h<;>rw[h]
  ·exact⟨1,0,rfl,by decide⟩
  ·exact⟨1,0,rfl,by decide⟩
  ·exact⟨1,0,rfl,by decide⟩
  ·exact⟨1,0,rfl,by decide⟩
  ·exact⟨2,5,rfl,by decide⟩
 obtain⟨h1,h2,h3,h4⟩:=za9 hf hsh
 have e4:=zaV (h4 (by decide))
 have htk:∀p∈d.names.map zaT++d.nums.map numT,Tok p:=fun p hp=>by
  rcases List.mem_append.1 hp with h|h
  ·obtain⟨n,_,rfl⟩:=List.mem_map.1 h
   exact zf3 n
  ·obtain⟨m,_,rfl⟩:=List.mem_map.1 h
   exact zeh m.toNat
 rw[tx_names hf ht,zg9 _ htk,List.map_append,List.map_map,List.map_map]at hr
 refine PkG t1 t2 hr fun b w1 h=>?_
 have hmk:zbx (d.names.map ((fun p=>(p,false))∘zaT)++d.nums.map ((fun p=>(p,false))∘numT))=false:=by
  cases hx:d.names with
  |nil=>rw[hx]at h1;simp at h1;omega
  |cons n r=>
   refine zfB (.inr fun e=>?_)
   have h5:(zaT n).getLast? =some 46:=by
    unfold zaT
    split
    ·rfl
    ·rename_i hn
     have:∀n:Nm,n≠ []→(n.flatMap fun l=>zau l++ [46]).getLast? =some 46:=fun n=>by
      induction n with
      |nil=>intro h;exact absurd rfl h
      |cons l n ih=>
       intro _
       rw[List.flatMap_cons]
       cases n with
       |nil=>simp
       |cons m n=>rw[List.getLast?_append,ih (by simp)];rfl
     exact this n hn
   have e2:zaT n=[92,35]:=e
   rw[e2]at h5
   cases h5
 rw[if_neg (by rw[hmk];decide)]
 refine Fn.mono (ownN_ok hW (by omega) (by rw[hsh,←h1,←h2]) (by omega) (by omega) h ho hoT (fun n hn=>?_) (fun m hm=>?_)) ?_
 ·have:=hT.s.names n hn
  exact⟨zdu (hnm n hn),by have:=zeO this.1 this.2;omega,trivial⟩
 ·have:=hT.s.nv m hm
  exact⟨⟨zcF (by omega),by omega⟩,by have:=zet this.2;omega⟩
 rintro _ w' ⟨⟨nmv,nuv,rfl,a1,a2⟩,hR,hk⟩
 refine⟨⟨_,rfl,fun X hX=>⟨_,_,_,_,rfl,a2 X hX,zbM a1 X hX,by rw[h3];exact zaS X,by rw[e4];exact zaS X⟩⟩,hR,hk⟩
theorem backA(hW:WX w)(hc:zaX d=0)(ht:¬(d.ty=1∨d.ty=28∨d.ty=16∨d.ty=15∨d.ty=2∨d.ty=5∨d.ty=12∨d.ty=39∨d.ty=6))(hr:Rows 2 WdC w wv (wF false (za1 hexU d) [] false)):Fn Tryz.prog 38 #[vi d.ty,wv,.slice oa on oc] w (fun v w'=>Ext w w'∧∃cs:List Value,v= .tuple #[.agg cs.toArray,vi 0]∧GD d w.heap.size cs w'):=by
 obtain⟨⟨t1,t2⟩,hf,hnm,_,hrl,_⟩:=zbE hc
 have hsh:zat d.ty=(0,0,0, -1):=by
  unfold zat
  rw[if_neg (by omega),if_neg (by omega),if_neg (by omega),if_neg (by omega),if_neg (by omega),if_neg (by omega)]
 obtain⟨h1,h2,h3,_⟩:=za9 hf hsh
 have e1:=zaV h1
 have e2:=zaV h2
 have hd:d=rawD d.ty d.raw:=by
  cases d
  simp only at e1 e2 h3
  rw[e1,e2,h3]
  rfl
 obtain⟨rest,hrest⟩:∃r,(if 0<d.raw.length then [(hexT d.raw,false)] else [])=r:=⟨_,rfl⟩
 have hmt:Tok [92,35]:=⟨by simp,fun s w=>zef 35 s w false⟩
 have hhx:∀c∈hexT d.raw,c≠92∧c≠34∧c≠32∧c∈digs16:=fun c hc=>by
  obtain⟨x,_,hx⟩:=List.mem_flatMap.1 hc
  have hxl:=x.toNat_lt
  simp only[hexB,List.mem_cons,List.not_mem_nil,or_false]at hx
  rcases hx with rfl|rfl
  ·have:=zb9 (x.toNat / 16) (by omega);exact⟨this.2.2.2.1,this.2.2.2.2.1,this.2.2.2.2.2,this.2.1⟩
  ·have:=zb9 (x.toNat % 16) (by omega);exact⟨this.2.2.2.1,this.2.2.2.2.1,this.2.2.2.2.2,this.2.1⟩
 have htk:wF false (za1 hexU d) [] false=([92,35],false)::(Lib.decDigits d.raw.length,false)::rest:=by
  rw[tx_any hf ht,←hrest]
  by_cases h0:0<d.raw.length
  ·rw[if_pos h0,if_pos h0]
   have e:([92,35,32]++Lib.decDigits d.raw.length++ [32])++hexT d.raw=[92,35]++([32]++(Lib.decDigits d.raw.length++([32]++hexT d.raw))):=by simp
   have hne:hexT d.raw≠ []:=fun e=>by have:=zb8 d.raw;rw[e]at this;simp at this;omega
   rw[e,zdk hmt,zdk (zeh _),zcP (zeg hne fun c hc=>⟨(hhx c hc).1,(hhx c hc).2.1,(hhx c hc).2.2.1⟩)]
  ·rw[if_neg h0,if_neg h0]
   have hr0:d.raw=[]:=List.length_eq_zero_iff.1 (by omega)
   have e:([92,35,32]++Lib.decDigits d.raw.length++ [])++hexT d.raw=[92,35]++([32]++Lib.decDigits d.raw.length):=by rw[hr0];simp[hexT]
   rw[e,zdk hmt,zcP (zeh _)]
 rw[htk]at hr
 have hcat:catW rest=hexT d.raw:=by
  rw[←hrest]
  by_cases h0:0<d.raw.length
  ·rw[if_pos h0];simp[catW]
  ·rw[if_neg h0,List.length_eq_zero_iff.1 (show d.raw.length=0 by omega)];rfl
 have hdl:=zcp 19 d.raw.length (by omega)
 refine PkG t1 t2 hr fun b w1 h=>?_
 rw[if_pos (show zbx _=true from rfl)]
 have hrs:∀x∈rest,x=(hexT d.raw,false):=fun x hx=>by
  rw[←hrest]at hx
  split at hx
  ·exact List.mem_singleton.1 hx
  ·cases hx
 have hrl2:rest.length≤1:=by rw[←hrest];split<;>simp
 have hpr:Pairs (catW rest) d.raw:=by
  rw[hcat]
  refine⟨zb8 _,fun i hi k1 k2=>?_⟩
  have:∀(l:List UInt8) (i:Nat) (h:i<l.length),(hexT l)[2*i]? =some (hexD (l[i].toNat / 16))∧(hexT l)[2*i+1]? =some (hexD (l[i].toNat % 16)):=fun l=>by
   induction l with
   |nil=>intro i h;simp at h
   |cons c l ih=>
    intro i h
    have e:hexT (c::l)=hexD (c.toNat / 16)::hexD (c.toNat % 16)::hexT l:=rfl
    cases i with
    |zero=>rw[e];exact⟨rfl,rfl⟩
    |succ j=>
     have:=ih j (by simpa using h)
     rw[e,show 2*(j+1)=2*j+1+1 by omega]
     simpa using this
  obtain⟨g1,g2⟩:=this d.raw i hi
  have hcl:=d.raw[i].toNat_lt
  rw[List.getElem?_eq_getElem k1]at g1
  rw[List.getElem?_eq_getElem k2]at g2
  rw[Option.some.inj g1,Option.some.inj g2]
  exact⟨_,_,(zb9 _ (by omega)).1,(zb9 _ (by omega)).1,by omega⟩
 refine Fn.mono (any_ok (n:=d.raw.length) hW h d.ty (by rw[hsh];decide) (by omega) (by omega) (zcF (by omega)) hrl (fun x hx=>?_) (by rw[hcat];exact zf2 fun c hc=>(hhx c hc).2.2.2) (by rw[hcat];exact zb8 _) hpr) ?_
 ·rw[hrs x hx]
  have:=zb8 d.raw
  exact⟨rfl,by show(hexT d.raw).length≤_;omega⟩
 rintro _ w' ⟨⟨rv,rfl,hown⟩,hR,hk⟩
 rw[←hd,hc]at hR
 exact⟨⟨_,rfl,fun X hX=>⟨_,_,_,_,rfl,by rw[e1];exact za4 X,by rw[e2];exact zaS X,by rw[h3];exact zaS X,zbM hown X hX⟩⟩,hR,hk⟩
theorem zeG(hW:WX w)(ho:Row w (.slice oa on oc) (o.map vs))(hoT:NmT o)(hc:zaX d=0)(hT:DatT d)(hr:Rows 2 WdC w wv (wF false (za1 hexU d) [] false)):Fn Tryz.prog 38 #[vi d.ty,wv,.slice oa on oc] w (fun v w'=>Ext w w'∧∃cs:List Value,v= .tuple #[.agg cs.toArray,vi 0]∧GD d w.heap.size cs w'):=by
 by_cases h1:d.ty=1
 ·exact back1 hW hc h1 hr
 by_cases h28:d.ty=28
 ·exact back28 hW hc h28 hr
 by_cases h16:d.ty=16
 ·exact back16 hc h16 hr
 by_cases h15:d.ty=15
 ·exact back15 hW ho hoT hc hT h15 hr
 by_cases hn:d.ty=2∨d.ty=5∨d.ty=12∨d.ty=39∨d.ty=6
 ·exact backN hW ho hoT hc hT hn hr
 ·exact backA hW hc (by omega) hr
end
end Go.Proofs.YtanmnkbccfcagaaGreatDoor
