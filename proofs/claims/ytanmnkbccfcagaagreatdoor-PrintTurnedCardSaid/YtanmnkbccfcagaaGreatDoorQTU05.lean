/-
  Texts of a proof, joined: D1, D2, D3, SS0, SO, CQ, CQ2, M5rr, SS1rec, SS2rec, SS3rec, SS4rec, SO2, SS5rec.
  Conditions: none.
-/
import Derived.Test.YtanmnkbccfcagaaGreatDoorQTU04
import Derived.Test.YtanmnkbccfcagaaGreatDoorQTU02
import Derived.Test.YtanmnkbccfcagaaGreatDoorQTU03
import Derived.Test.YtanmnkbccfcagaaGreatDoorQTU01
set_option linter.unusedVariables false
set_option linter.unusedSimpArgs false
set_option linter.defProp false
set_option linter.unnecessarySimpa false
set_option maxHeartbeats 8000000
namespace Go.Proofs.YtanmnkbccfcagaaGreatDoor
open Go
set_option maxRecDepth 10000
theorem rowN_ok(w:World)(a b:Value)(xs ys:List Nm)(ha:NamesAt w a xs)(hb:NamesAt w b ys)(hx:∀n∈xs,LB n∧n.length≤1000000000000000)(hy:∀n∈ys,LB n∧n.length≤1000000000000000)(hxl:xs.length≤1000000000000000)(hyl:ys.length≤1000000000000000):
  Fn Tryz.prog 98 #[a,b,.func (.func 99) #[] #[]] w (fun v w'=>v=vi (lexC zfg xs ys)∧Ext w w'):=by
 refine enter Tryz.func98 Tryz.ntmps98 rfl rfl ?_
 repeat refine c_r ?_
 refine rg0 ?_
 repeat refine c_r ?_
 refine rq ?_;intro gd K hgd hK
 try simp only[go_sem]
 refine Fn.mono (C_cn.CompareFunc_ok (Rl:=fun w (n:Nm) v=>Row w v (n.map vs)) (U:=fun n=>LB n∧n.length≤1000000000000000) (cf:=zfg) (fun w x a v hE h=>h.ext hE) rfl (fun A x y u v hE hx hy hu hv=>zdZ A u v x y hu hv hx.1 hy.1 (by have:=hx.2;omega) (by have:=hy.2;omega)) (xs:=xs) (ys:=ys) ha hb hx hy hxl hyl) ?_
 rintro _ w1 ⟨rfl,hE⟩
 try simp only[go_sem]
 refine hK _ _ ?_;clear hK hgd;clear K;try clear gd
 repeat refine c_r ?_
 refine rt0 Tryz.ntmps98 ?_
 exact⟨rfl,hE⟩
theorem zgo{α:Type}{f:α→Value}{w:World}{v:Value}{xs:List α}(h:Row w v (xs.map f)):C_cu.RowR (fun _ a u=>u=f a) w v xs:=⟨_,h,by simp,fun i h1 h2=>by simp⟩
theorem rowU_ok(w:World)(a b:Value)(xs ys:List Int)(ha:Row w a (xs.map v32))(hb:Row w b (ys.map v32))(hxl:xs.length≤1000000000000000)(hyl:ys.length≤1000000000000000):
  Fn Tryz.prog 100 #[a,b,.func (.func 101) #[] #[]] w (fun v w'=>v=vi (lexC cmpI xs ys)∧Ext w w'):=by
 refine enter Tryz.func100 Tryz.ntmps100 rfl rfl ?_
 repeat refine c_r ?_
 refine rg0 ?_
 repeat refine c_r ?_
 refine rq ?_;intro gd K hgd hK
 try simp only[go_sem]
 refine Fn.mono (C_cu.CompareFunc_ok (Rl:=fun _ (n:Int) v=>v=v32 n) (U:=fun _=>True) (cf:=cmpI) (fun w x a v hE h=>h) rfl (fun A x y u v hE hx hy hu hv=>by subst hu hv;exact Fn.mono (N_uint32.Compare_ok A x y) (fun _ _ ⟨h1,h2⟩=>⟨h1,h2▸Keep.refl _ _⟩)) (xs:=xs) (ys:=ys) (zgo ha) (zgo hb) (fun _ _=>trivial) (fun _ _=>trivial) hxl hyl) ?_
 rintro _ w1 ⟨rfl,hE⟩
 try simp only[go_sem]
 refine hK _ _ ?_;clear hK hgd;clear K;try clear gd
 repeat refine c_r ?_
 refine rt0 Tryz.ntmps100 ?_
 exact⟨rfl,hE⟩
theorem rowT_ok(w:World)(a b:Value)(xs ys:List Lab)(ha:Row w a (xs.map vs))(hb:Row w b (ys.map vs))(hxl:xs.length≤1000000000000000)(hyl:ys.length≤1000000000000000):
  Fn Tryz.prog 102 #[a,b,.func (.func 103) #[] #[]] w (fun v w'=>v=vi (lexC cmpL xs ys)∧Ext w w'):=by
 refine enter Tryz.func102 Tryz.ntmps102 rfl rfl ?_
 repeat refine c_r ?_
 refine rg0 ?_
 repeat refine c_r ?_
 refine rq ?_;intro gd K hgd hK
 try simp only[go_sem]
 refine Fn.mono (C_ct.CompareFunc_ok (Rl:=fun _ (n:Lab) v=>v=vs n) (U:=fun _=>True) (cf:=cmpL) (fun w x a v hE h=>h) rfl (fun A x y u v hE hx hy hu hv=>by subst hu hv;exact Fn.mono (zdY A x y) (fun _ _ ⟨h1,h2⟩=>⟨h1,h2▸Keep.refl _ _⟩)) (xs:=xs) (ys:=ys) ⟨_,ha,by simp,fun i h1 h2=>by simp⟩ ⟨_,hb,by simp,fun i h1 h2=>by simp⟩ (fun _ _=>trivial) (fun _ _=>trivial) hxl hyl) ?_
 rintro _ w1 ⟨rfl,hE⟩
 try simp only[go_sem]
 refine hK _ _ ?_;clear hK hgd;clear K;try clear gd
 repeat refine c_r ?_
 refine rt0 Tryz.ntmps102 ?_
 exact⟨rfl,hE⟩
theorem zfW(w:World)(ca cb:List Value)(a b:DatL)(ha:DatAt w ca a)(hb:DatAt w cb b)(hoa:DatOk a)(hob:DatOk b):
  Fn Tryz.prog 36 #[.agg ca.toArray,.agg cb.toArray] w (fun v w'=>v=vi (cmpD a b)∧Ext w w'):=by
 obtain⟨nm,nu,tx,rw',rfl,a1,a2,a3,a4⟩:=ha.ex
 obtain⟨nm2,nu2,tx2,rw2,rfl,b1,b2,b3,b4⟩:=hb.ex
 refine enter Tryz.func36 Tryz.ntmps36 rfl rfl ?_
 repeat refine c_r ?_
 refine rg0 ?_
 repeat refine c_r ?_
 have k1:=zak w (.cells #[vi a.ty,nm,nu,tx,rw'] 33 (0,0))
 have kE:=(Ext.alloc w (.cells #[vi a.ty,nm,nu,tx,rw'] 33 (0,0))).trans (Ext.alloc _ (.cells #[vi b.ty,nm2,nu2,tx2,rw2] 33 (0,0)))
 have k2:=zak (w.alloc (.cells #[vi a.ty,nm,nu,tx,rw'] 33 (0,0))) (.cells #[vi b.ty,nm2,nu2,tx2,rw2] 33 (0,0))
 have k1':=(RowKit.Below.heap_alloc _ (.cells #[vi b.ty,nm2,nu2,tx2,rw2] 33 (0,0)) _ (by simp)).trans k1
 rw[zat]at k2 ⊢
 clear k1
 revert k1' kE k2
 generalize (w.alloc (.cells #[vi a.ty,nm,nu,tx,rw'] 33 (0,0))).alloc (.cells #[vi b.ty,nm2,nu2,tx2,rw2] 33 (0,0))=w1
 intro kE k2 k1
 refine zaK (fun _=>false) [(0,true),(1,true),(2,true),(3,true),(5,true),(6,true),(7,true),(8,true),(10,true),(11,true),(12,true),(13,true),(15,true),(16,true),(17,true),(18,true),(20,true),(21,true),(22,true),(23,true),(4,false),(9,false),(14,false),(19,false),(24,false),(25,false),(26,false),(27,true)] NoS mixed (by kernel_rfl) ?_;intro gd K x hgd hx hxe hK;clear hxe
 have hE1:=kE.trans hx
 have K1:=(hx.block _ (Array.getElem?_eq_some_iff.1 k1).1 (fun h=>h)).trans k1
 have K2:=(hx.block _ (Array.getElem?_eq_some_iff.1 k2).1 (fun h=>h)).trans k2
 have p0:zaf x (some ⟨w.heap.size,0,Option.none⟩)=some (vi a.ty):=zac K1 rfl
 have p1:zaf x (some ⟨w.heap.size,1,Option.none⟩)=some (nm):=zac K1 rfl
 have p2:zaf x (some ⟨w.heap.size,2,Option.none⟩)=some (nu):=zac K1 rfl
 have p3:zaf x (some ⟨w.heap.size,3,Option.none⟩)=some (tx):=zac K1 rfl
 have p4:zaf x (some ⟨w.heap.size,4,Option.none⟩)=some (rw'):=zac K1 rfl
 have q0:zaf x (some ⟨w.heap.size+1,0,Option.none⟩)=some (vi b.ty):=zac K2 rfl
 have q1:zaf x (some ⟨w.heap.size+1,1,Option.none⟩)=some (nm2):=zac K2 rfl
 have q2:zaf x (some ⟨w.heap.size+1,2,Option.none⟩)=some (nu2):=zac K2 rfl
 have q3:zaf x (some ⟨w.heap.size+1,3,Option.none⟩)=some (tx2):=zac K2 rfl
 have q4:zaf x (some ⟨w.heap.size+1,4,Option.none⟩)=some (rw2):=zac K2 rfl
 simp (disch:=first|omega|assumption|rfl) only[go_sem,p0,p1,p2,p3,p4,q0,q1,q2,q3,q4]
 refine Fn.mono (N_int.Compare_ok x _ _) ?_
 rintro _ x0 ⟨rfl,h0⟩
 replace h0:=h0.symm
 subst h0
 refine⟨.inr (Keep.refl _ _),?_⟩
 simp (disch:=first|omega|assumption|rfl) only[go_sem]
 refine Fn.mono (rowN_ok x _ _ _ _ (a1.ext hE1) (b1.ext hE1) hoa.names hob.names hoa.nn hob.nn) ?_
 rintro _ x1 ⟨rfl,h1⟩
 refine⟨.inr h1,?_⟩
 simp (disch:=first|omega|assumption|rfl) only[go_sem]
 refine Fn.mono (rowU_ok x1 _ _ _ _ (a2.ext (hE1.trans h1)) (b2.ext (hE1.trans h1)) hoa.nu hob.nu) ?_
 rintro _ x2 ⟨rfl,h2⟩
 refine⟨.inr h2,?_⟩
 simp (disch:=first|omega|assumption|rfl) only[go_sem]
 refine Fn.mono (rowT_ok x2 _ _ _ _ (a3.ext ((hE1.trans h1).trans h2)) (b3.ext ((hE1.trans h1).trans h2)) hoa.nt hob.nt) ?_
 rintro _ x3 ⟨rfl,h3⟩
 refine⟨.inr h3,?_⟩
 have hE3:=((hE1.trans h1).trans h2).trans h3
 simp (disch:=first|omega|assumption|rfl) only[go_sem]
 refine Fn.mono (zfX x3 _ _ _ _ (a4.ext hE3) (b4.ext hE3)) ?_
 rintro _ x0 ⟨rfl,h0⟩
 replace h0:=h0.symm
 subst h0
 refine⟨.inr (Keep.refl _ _),?_⟩
 simp (disch:=first|omega|assumption|rfl) only[go_sem]
 refine zbf (z:=vi 0) (l:=[vi (cmpI a.ty b.ty),vi (lexC zfg a.names b.names),vi (lexC cmpI a.nums b.nums),vi (lexC cmpL a.texts b.texts),vi (cmpL a.raw b.raw)]) rfl rfl rfl rfl rfl rfl (fun v hv=>by simp at hv;rcases hv with rfl|rfl|rfl|rfl|rfl<;>rfl) (by simp) ?_
 intro x4 h4 hs4 ho4
 refine⟨.inr h4,?_⟩
 simp (disch:=first|omega|assumption|rfl) only[go_sem]
 refine Fn.mono (Or_ok x4 _ [cmpI a.ty b.ty,lexC zfg a.names b.names,lexC cmpI a.nums b.nums,lexC cmpL a.texts b.texts,cmpL a.raw b.raw] ho4.row (by simp)) ?_
 rintro _ x0 ⟨rfl,h0⟩
 replace h0:=h0.symm
 subst h0
 refine⟨.inr (Keep.refl _ _),?_⟩
 simp (disch:=first|omega|assumption|rfl) only[go_sem]
 refine hK _ _ ?_;clear hK hgd;clear K;try clear gd
 repeat refine c_r ?_
 refine rt0 Tryz.ntmps36 ?_
 exact⟨rfl,hE3.trans h4⟩
theorem zcN(w:World)(ca cb:List Value)(a b:RecL)(ha:RecAt w ca a)(hb:RecAt w cb b)(hoa:zcw a)(hob:zcw b):
  Fn Tryz.prog 118 #[.agg ca.toArray,.agg cb.toArray] w (fun v w'=>v=vi (zau a b)∧Ext w w'):=by
 obtain⟨ow,ds,rfl,a1,a2⟩:=ha.ex
 obtain⟨ow2,ds2,rfl,b1,b2⟩:=hb.ex
 have a2':=a2
 have b2':=b2
 obtain⟨nm,nu,tx,rw',rfl,_⟩:=a2.ex
 obtain⟨nm2,nu2,tx2,rw2,rfl,_⟩:=b2.ex
 refine enter Tryz.func118 Tryz.ntmps118 rfl rfl ?_
 repeat refine c_r ?_
 refine rg0 ?_
 repeat refine c_r ?_
 have k1:=zak w (.cells #[ow,v32 a.ttl,vi a.dat.ty,nm,nu,tx,rw'] 35 (0,0))
 have kE:=(Ext.alloc w (.cells #[ow,v32 a.ttl,vi a.dat.ty,nm,nu,tx,rw'] 35 (0,0))).trans (Ext.alloc _ (.cells #[ow2,v32 b.ttl,vi b.dat.ty,nm2,nu2,tx2,rw2] 35 (0,0)))
 have k2:=zak (w.alloc (.cells #[ow,v32 a.ttl,vi a.dat.ty,nm,nu,tx,rw'] 35 (0,0))) (.cells #[ow2,v32 b.ttl,vi b.dat.ty,nm2,nu2,tx2,rw2] 35 (0,0))
 have k1':=(RowKit.Below.heap_alloc _ (.cells #[ow2,v32 b.ttl,vi b.dat.ty,nm2,nu2,tx2,rw2] 35 (0,0)) _ (by simp)).trans k1
 rw[zat]at k2 ⊢
 clear k1
 revert k1' kE k2
 generalize (w.alloc (.cells #[ow,v32 a.ttl,vi a.dat.ty,nm,nu,tx,rw'] 35 (0,0))).alloc (.cells #[ow2,v32 b.ttl,vi b.dat.ty,nm2,nu2,tx2,rw2] 35 (0,0))=w1
 intro kE k2 k1
 refine zaK (fun _=>false) [(0,true),(1,true),(2,true),(3,true),(5,true),(6,true),(7,true),(8,true),(9,true),(10,true),(12,true),(13,true),(14,true),(15,true),(4,false),(11,false),(16,false),(17,false),(18,false),(19,true)] NoS mixed (by kernel_rfl) ?_;intro gd K x hgd hx hxe hK;clear hxe
 have hE1:=kE.trans hx
 have K1:=(hx.block _ (Array.getElem?_eq_some_iff.1 k1).1 (fun h=>h)).trans k1
 have K2:=(hx.block _ (Array.getElem?_eq_some_iff.1 k2).1 (fun h=>h)).trans k2
 have p0:zaf x (some ⟨w.heap.size,0,Option.none⟩)=some ow:=zac K1 rfl
 have p2:zaf x (some ⟨w.heap.size,2,Option.none⟩)=some (vi a.dat.ty):=zac K1 rfl
 have p5:zav x (some ⟨w.heap.size,2,Option.none⟩) 5=some [vi a.dat.ty,nm,nu,tx,rw']:=zam K1 (Nat.le_refl 7)
 have q0:zaf x (some ⟨w.heap.size+1,0,Option.none⟩)=some ow2:=zac K2 rfl
 have q2:zaf x (some ⟨w.heap.size+1,2,Option.none⟩)=some (vi b.dat.ty):=zac K2 rfl
 have q5:zav x (some ⟨w.heap.size+1,2,Option.none⟩) 5=some [vi b.dat.ty,nm2,nu2,tx2,rw2]:=zam K2 (Nat.le_refl 7)
 simp (disch:=first|omega|assumption|rfl) only[go_sem,p0,p2,p5,q0,q2,q5,Nat.add_zero]
 refine Fn.mono (zdZ x _ _ _ _ (a1.ext hE1) (b1.ext hE1) hoa.lb hob.lb (by have:=hoa.len;omega) (by have:=hob.len;omega)) ?_
 rintro _ x1 ⟨rfl,h1⟩
 refine⟨.inr h1,?_⟩
 simp (disch:=first|omega|assumption|rfl) only[go_sem]
 refine Fn.mono (N_int.Compare_ok x1 _ _) ?_
 rintro _ x0 ⟨rfl,h0⟩
 replace h0:=h0.symm
 subst h0
 refine⟨.inr (Keep.refl _ _),?_⟩
 simp (disch:=first|omega|assumption|rfl) only[go_sem]
 refine Fn.mono (zfW x1 _ _ a.dat b.dat (a2'.ext (hE1.trans h1)) (b2'.ext (hE1.trans h1)) hoa.dat hob.dat) ?_
 rintro _ x2 ⟨rfl,h2⟩
 refine⟨.inr h2,?_⟩
 simp (disch:=first|omega|assumption|rfl) only[go_sem]
 refine zbf (z:=vi 0) (l:=[vi (cmpN (zao a.owner) (zao b.owner)),vi (cmpI a.dat.ty b.dat.ty),vi (cmpD a.dat b.dat)]) rfl rfl rfl rfl rfl rfl (fun v hv=>by simp at hv;rcases hv with rfl|rfl|rfl<;>rfl) (by simp) ?_
 intro x4 h4 hs4 ho4
 refine⟨.inr h4,?_⟩
 simp (disch:=first|omega|assumption|rfl) only[go_sem]
 refine Fn.mono (Or_ok x4 _ [cmpN (zao a.owner) (zao b.owner),cmpI a.dat.ty b.dat.ty,cmpD a.dat b.dat] ho4.row (by simp)) ?_
 rintro _ x0 ⟨rfl,h0⟩
 replace h0:=h0.symm
 subst h0
 refine⟨.inr (Keep.refl _ _),?_⟩
 simp (disch:=first|omega|assumption|rfl) only[go_sem]
 refine hK _ _ ?_;clear hK hgd;clear K;try clear gd
 repeat refine c_r ?_
 refine rt0 Tryz.ntmps118 ?_
 exact⟨rfl,((hE1.trans h1).trans h2).trans h4⟩
def minT(a b:RecL):RecL:={a with ttl:=min a.ttl b.ttl}
theorem zfT(w:World)(ca cb:List Value)(a b:RecL)(ha:RecAt w ca a)(hb:RecAt w cb b):
  Fn Tryz.prog 119 #[.agg ca.toArray,.agg cb.toArray] w (fun v w'=>v= .agg (ca.set 1 (v32 (min a.ttl b.ttl))).toArray∧Ext w w'):=by
 obtain⟨ow,ds,rfl,a1,a2⟩:=ha.ex
 obtain⟨ow2,ds2,rfl,b1,b2⟩:=hb.ex
 have a2':=a2
 obtain⟨nm,nu,tx,rw',rfl,n1,n2,n3,n4⟩:=a2.ex
 obtain⟨nm2,nu2,tx2,rw2,rfl,_⟩:=b2.ex
 refine enter Tryz.func119 Tryz.ntmps119 rfl rfl ?_
 repeat refine c_r ?_
 refine rg0 ?_
 repeat refine c_r ?_
 have hal:=zfS w (.cells #[ow,v32 a.ttl,vi a.dat.ty,nm,nu,tx,rw'] 35 (0,0)) (.cells #[ow2,v32 b.ttl,vi b.dat.ty,nm2,nu2,tx2,rw2] 35 (0,0)) (.cells #[.slice Option.none 0 0,v32 0,vi 0,.slice Option.none 0 0,.slice Option.none 0 0,.slice Option.none 0 0,.slice Option.none 0 0] 35 (0,0))
 rw[show (w.alloc (.cells #[ow,v32 a.ttl,vi a.dat.ty,nm,nu,tx,rw'] 35 (0,0))).heap.size=w.heap.size+1 from zat _ _,show((w.alloc (.cells #[ow,v32 a.ttl,vi a.dat.ty,nm,nu,tx,rw'] 35 (0,0))).alloc (.cells #[ow2,v32 b.ttl,vi b.dat.ty,nm2,nu2,tx2,rw2] 35 (0,0))).heap.size=w.heap.size+2 from(zdV w _ _).2.1]
 revert hal
 generalize ((w.alloc (.cells #[ow,v32 a.ttl,vi a.dat.ty,nm,nu,tx,rw'] 35 (0,0))).alloc (.cells #[ow2,v32 b.ttl,vi b.dat.ty,nm2,nu2,tx2,rw2] 35 (0,0))).alloc (.cells #[.slice Option.none 0 0,v32 0,vi 0,.slice Option.none 0 0,.slice Option.none 0 0,.slice Option.none 0 0,.slice Option.none 0 0] 35 (0,0))=w1
 rintro⟨hE,hs,hA,hB,hC⟩
 have p1:zaf w1 (some ⟨w.heap.size,1,Option.none⟩)=some (v32 a.ttl):=zac hA rfl
 have q1:zaf w1 (some ⟨w.heap.size+1,1,Option.none⟩)=some (v32 b.ttl):=zac hB rfl
 refine rq ?_;intro gd K hgd hK
 try simp (disch:=first|omega|assumption|rfl) only[go_sem,p1,q1,Nat.add_zero]
 refine zhL (by rfl) (by rfl) ?_
 try simp only[go_sem]
 refine za9 rfl rfl rfl hA (by simp) (by simp) ?_
 intro w2 hs2 hb2 hk2
 try simp only[go_sem]
 refine hK _ _ ?_;clear hK hgd;clear K;try clear gd
 repeat refine c_r ?_
 have hE2:Ext w w2:=Keep.to_ext hE rfl (fun i hi=>by omega) hk2
 have r7:zav w2 (some ⟨w.heap.size,0,Option.none⟩) 7=some [ow,v32 (min a.ttl b.ttl),vi a.dat.ty,nm,nu,tx,rw']:=zam hb2 (Nat.le_refl 7)
 have hC2:=(hk2.block _ (Array.getElem?_eq_some_iff.1 hC).1 (by omega)).trans hC
 refine rq ?_;intro gd K hgd hK
 try simp (disch:=first|omega|assumption|rfl) only[go_sem,r7]
 have hSD:SD 7 w2 (w.heap.size+2) 35 1 [[.slice Option.none 0 0,v32 0,vi 0,.slice Option.none 0 0,.slice Option.none 0 0,.slice Option.none 0 0,.slice Option.none 0 0]]:=
  ⟨⟨_,[],hC2,rfl,rfl⟩,fun x h=>(by rw[List.mem_singleton.1 h];rfl),fun x h v hv=>(by rw[List.mem_singleton.1 h]at hv;simp at hv;rcases hv with rfl|rfl|rfl|rfl<;>rfl)⟩
 have hone:∀q∈ [ow,v32 (min a.ttl b.ttl),vi a.dat.ty,nm,nu,tx,rw'],one q=true:=by
  obtain⟨o1,o2,rfl,_⟩:=a1
  obtain⟨_,⟨o3,o4,rfl,_⟩,_⟩:=n1
  obtain⟨o5,o6,rfl,_⟩:=n2
  obtain⟨o7,o8,rfl,_⟩:=n3
  obtain⟨o9,o10,rfl,_⟩:=n4
  intro q hq
  simp at hq
  rcases hq with rfl|rfl|rfl|rfl|rfl|rfl|rfl<;>rfl
 refine SD.set (P:=Tryz.prog) (t:=35) hSD (j:=0) (by simp) (x:=[ow,v32 (min a.ttl b.ttl),vi a.dat.ty,nm,nu,tx,rw']) rfl hone rfl rfl ?_
 intro w3 hs3 hL3 hk3
 try simp only[go_sem]
 refine hK _ _ ?_;clear hK hgd;clear K;try clear gd
 repeat refine c_r ?_
 have hE3:Ext w w3:=Keep.to_ext hE2 rfl (fun i hi=>by omega) hk3
 have r9:=hL3.get (j:=0) (by simp)
 refine ret_cell (by simp) rfl Tryz.ntmps119 (vq0) rfl rfl r9 ?_
 exact⟨rfl,hE3⟩
theorem RecAt.minT{w:World}{ca:List Value}{a b:RecL}(h:RecAt w ca a):RecAt w (ca.set 1 (v32 (min a.ttl b.ttl))) (minT a b):=by
 obtain⟨ow,ds,rfl,h1,h2⟩:=h.ex
 exact⟨ow,ds,rfl,h1,h2⟩
section
variable {α : Type}
theorem zhq(A B:List α)(x y:α):(A++x::B).set A.length y=A++y::B:=by
 rw[List.set_append_right _ _ (Nat.le_refl _),Nat.sub_self,List.set_cons_zero]
theorem zbB(A B:List α)(x:α):(A++x::B)[A.length]? =some x:=by simp
theorem zdk(A M B:List α)(x y:α){i j:Nat}(hi:i=A.length)(hj:j=A.length+1+M.length):((A++x::M++y::B).set i y).set j x=A++y::M++x::B:=by
 subst hi hj
 have e1:(A++x::M++y::B).set A.length y=A++y::M++y::B:=by
  have:=zhq A (M++y::B) x y
  simpa using this
 rw[e1]
 have:=zhq (A++y::M) B y x
 rwa [show (A++y::M).length=A.length+1+M.length from by simp;omega]at this
def zbl(A X M Y B:List α)(i:Nat):List α:=A++(Y.take i++X.drop i)++M++(X.take i++Y.drop i)++B
theorem zfw{A X M Y B:List α}{i:Nat}(hX:i<X.length)(hY:i<Y.length):
  ((zbl A X M Y B i).set (A.length+i) Y[i]).set (A.length+X.length+M.length+i) X[i]=zbl A X M Y B (i+1)∧
  (zbl A X M Y B i)[A.length+i]? =some X[i]∧(zbl A X M Y B i)[A.length+X.length+M.length+i]? =some Y[i]:=by
 have e0:zbl A X M Y B i=(A++Y.take i)++X[i]::(X.drop (i+1)++M++X.take i)++Y[i]::(Y.drop (i+1)++B):=by
  unfold zbl
  rw[List.drop_eq_getElem_cons hX,List.drop_eq_getElem_cons hY]
  simp only[List.append_assoc,List.cons_append]
 have l1:(A++Y.take i).length=A.length+i:=by simp;omega
 have l2:(X.drop (i+1)++M++X.take i).length=X.length - (i+1)+M.length+i:=by simp;omega
 refine⟨?_,?_,?_⟩
 ·rw[e0,zdk (A++Y.take i) _ _ X[i] Y[i] (by omega) (by omega)]
  unfold zbl
  rw[zag hX,zag hY]
  simp only[List.append_assoc,List.cons_append,List.nil_append]
 ·rw[e0,←l1,List.append_assoc]
  have:=zbB (A++Y.take i) (X.drop (i+1)++M++X.take i++Y[i]::(Y.drop (i+1)++B)) X[i]
  simpa using this
 ·rw[e0]
  have:=zbB (A++Y.take i++X[i]::(X.drop (i+1)++M++X.take i)) (Y.drop (i+1)++B) Y[i]
  rw[show (A++Y.take i++X[i]::(X.drop (i+1)++M++X.take i)).length=A.length+X.length+M.length+i from by rw[List.length_append,List.length_cons,l1,l2];omega]at this
  exact this
theorem zgx{A X M Y B:List α}{n:Nat}(hX:X.length=n)(hY:Y.length=n):zbl A X M Y B n=A++Y++M++X++B:=by
 unfold zbl
 rw[List.take_of_length_le (by omega),List.take_of_length_le (by omega),List.drop_of_length_le (by omega),List.drop_of_length_le (by omega)]
 simp
theorem zeP(A X M Y B:List α):zbl A X M Y B 0=A++X++M++Y++B:=by simp[zbl]
theorem zgw{A X M Y B:List α}{i:Nat}(hi:i≤X.length)(h:X.length=Y.length):(zbl A X M Y B i).length=(A++X++M++Y++B).length:=by
 simp[zbl];omega
end
structure zfp{α:Type}(cf:α→α→Int)(lt older:α→α→Prop):Prop where
 trans:∀{a b c},lt a b→lt b c→lt a c
 less:∀{x y},older x y→cf y x<0→lt y x
 more:∀{x y},older x y→¬cf y x<0→lt x y
section
variable {α : Type} {lt : α → α → Prop}
theorem zf4{l:List α}(h:l.Pairwise lt){i j:Nat}{x y:α}(hx:l[i]? =some x)(hy:l[j]? =some y)(hij:i<j):lt x y:=by
 obtain⟨h1,rfl⟩:=List.getElem?_eq_some_iff.1 hx
 obtain⟨h2,rfl⟩:=List.getElem?_eq_some_iff.1 hy
 exact List.pairwise_iff_getElem.1 h i j h1 h2 hij
structure Cut(lt:α→α→Prop)(x:α)(Y:List α)(s e:Nat):Prop where
 lo:∀i y,i<s→Y[i]? =some y→lt y x
 hi:∀i y,e≤i→Y[i]? =some y→lt x y
theorem Cut.start(x:α)(Y:List α):Cut lt x Y 0 Y.length:=
 ⟨fun i y h=>absurd h (Nat.not_lt_zero _),fun i y h hy=>by rw[List.getElem?_eq_none h]at hy;cases hy⟩
theorem Cut.up{x:α}{Y:List α}{s e h:Nat}{y:α}(ht:∀{a b c},lt a b→lt b c→lt a c)(hY:Y.Pairwise lt)(hc:Cut lt x Y s e)(hy:Y[h]? =some y)(hl:lt y x):Cut lt x Y (h+1) e:=
 ⟨fun i z hi hz=>by
  by_cases hih:i=h
  ·subst hih;rw[hy]at hz;cases hz;exact hl
  ·exact ht (zf4 hY hz hy (by omega)) hl,hc.hi⟩
theorem Cut.down{x:α}{Y:List α}{s e h:Nat}{y:α}(ht:∀{a b c},lt a b→lt b c→lt a c)(hY:Y.Pairwise lt)(hc:Cut lt x Y s e)(hy:Y[h]? =some y)(hl:lt x y):Cut lt x Y s h:=
 ⟨hc.lo,fun i z hi hz=>by
  by_cases hih:i=h
  ·subst hih;rw[hy]at hz;cases hz;exact hl
  ·exact ht hl (zf4 hY hy hz (by omega))⟩
theorem Cut.sorted{x:α}{Y:List α}{s:Nat}(ht:∀{a b c},lt a b→lt b c→lt a c)(hY:Y.Pairwise lt)(hc:Cut lt x Y s s):(Y.take s++x::Y.drop s).Pairwise lt:=by
 rw[List.pairwise_append]
 have h1:∀y∈Y.take s,lt y x:=fun y hy=>by
  obtain⟨i,hi,rfl⟩:=List.getElem_of_mem hy
  have hi':=hi
  rw[List.length_take]at hi'
  refine hc.lo i _ (by omega) ?_
  rw[List.getElem_take,List.getElem?_eq_getElem]
 have h2:∀y∈Y.drop s,lt x y:=fun y hy=>by
  obtain⟨i,hi,rfl⟩:=List.getElem_of_mem hy
  have hi':=hi
  rw[List.length_drop]at hi'
  refine hc.hi (s+i) _ (by omega) ?_
  rw[List.getElem_drop,List.getElem?_eq_getElem]
 refine⟨hY.sublist (List.take_sublist _ _),List.pairwise_cons.2 ⟨h2,hY.sublist (List.drop_sublist _ _)⟩,fun y hy z hz=>?_⟩
 rcases List.mem_cons.1 hz with rfl|hz
 ·exact h1 y hy
 ·exact ht (h1 y hy) (h2 z hz)
theorem cross{X Y:List α}{s t:Nat}(ht:∀{a b c},lt a b→lt b c→lt a c)(hX:X.Pairwise lt)(hY:Y.Pairwise lt)
  (h:s=0∨t=Y.length∨∃x y,X[s - 1]? =some x∧Y[t]? =some y∧lt x y):∀x∈X.take s,∀y∈Y.drop t,lt x y:=by
 intro x hx y hy
 obtain⟨i,hi,rfl⟩:=List.getElem_of_mem hx
 obtain⟨j,hj,rfl⟩:=List.getElem_of_mem hy
 rw[List.length_take]at hi
 rw[List.length_drop]at hj
 rcases h with h|h| ⟨u,v,hu,hv,huv⟩
 ·omega
 ·omega
 ·rw[List.getElem_take,List.getElem_drop]
  have gx:X[i]? =some X[i]:=List.getElem?_eq_getElem (by omega)
  have gy:Y[t+j]? =some Y[t+j]:=List.getElem?_eq_getElem (by omega)
  have h1:lt X[i] v:=by
   by_cases hi1:i=s - 1
   ·subst hi1;rw[hu]at gx;cases gx;exact huv
   ·exact ht (zf4 hX gx hu (by omega)) huv
  rcases Nat.eq_zero_or_pos j with hj0|hj0
  ·have gv:Y[t+j]? =some v:=by rw[hj0];exact hv
   rw[gy]at gv
   rw[Option.some.inj gv];exact h1
  ·exact ht h1 (zf4 hY hv gy (by omega))
theorem zfx{X1 X2 Y1 Y2 Z1 Z2:List α}(hX:(X1++X2).Pairwise lt)(hY:(Y1++Y2).Pairwise lt)(c1:∀x∈X1,∀y∈Y2,lt x y)(c2:∀y∈Y1,∀x∈X2,lt y x)
  (p1:Z1.Perm (X1++Y1)) (p2:Z2.Perm (X2++Y2)) (s1:Z1.Pairwise lt) (s2:Z2.Pairwise lt):(Z1++Z2).Pairwise lt∧(Z1++Z2).Perm ((X1++X2)++(Y1++Y2)):=by
 rw[List.pairwise_append]at hX hY
 constructor
 ·rw[List.pairwise_append]
  refine⟨s1,s2,fun a ha b hb=>?_⟩
  rcases List.mem_append.1 (p1.mem_iff.1 ha) with ha|ha
  ·rcases List.mem_append.1 (p2.mem_iff.1 hb) with hb|hb
   ·exact hX.2.2 a ha b hb
   ·exact c1 a ha b hb
  ·rcases List.mem_append.1 (p2.mem_iff.1 hb) with hb|hb
   ·exact c2 a ha b hb
   ·exact hY.2.2 a ha b hb
 ·refine(p1.append p2).trans ?_
  rw[List.append_assoc,List.append_assoc]
  refine List.Perm.append_left X1 ?_
  rw[←List.append_assoc,←List.append_assoc]
  exact List.Perm.append_right Y2 List.perm_append_comm
end
structure Cpr{α:Type}(cf:α→α→Int):Prop where
 neg:∀a b,cf b a= - cf a b
 trans:∀{a b c},cf a b<0→cf b c<0→cf a c<0
 eql:∀{a b c},cf a b=0→cf a c=cf b c
section
variable {α β : Type}
theorem Cpr.eqr{cf:α→α→Int}(h:Cpr cf){a b c:α}(e:cf a b=0):cf c a=cf c b:=by
 have h1:=h.neg a c
 have h2:=h.neg b c
 have h3:=h.eql (c:=c) e
 omega
theorem Cpr.map{cf:β→β→Int}(h:Cpr cf)(f:α→β):Cpr (fun a b=>cf (f a) (f b)):=⟨fun a b=>h.neg _ _,fun h1 h2=>h.trans h1 h2,fun e=>h.eql e⟩
theorem Cpr.const:Cpr (fun _ _:α=>0):=⟨fun _ _=>rfl,fun h _=>absurd h (by decide),fun _=>rfl⟩
theorem Cpr.or{c1 c2:α→α→Int}(h1:Cpr c1)(h2:Cpr c2):Cpr (fun a b=>if c1 a b=0 then c2 a b else c1 a b):=by
 refine⟨fun a b=>?_,fun {a b c} g1 g2=>?_,fun {a b c} e=>?_⟩
 ·have n1:=h1.neg a b
  have n2:=h2.neg a b
  (repeat' split)<;>omega
 ·by_cases e1:c1 a b=0
  ·rw[if_pos e1]at g1
   have e3:=h1.eql (c:=c) e1
   by_cases e2:c1 b c=0
   ·rw[if_pos e2]at g2
    rw[if_pos (by omega)]
    exact h2.trans g1 g2
   ·rw[if_neg e2]at g2
    rw[if_neg (by omega)];omega
  ·rw[if_neg e1]at g1
   by_cases e2:c1 b c=0
   ·have e3:=h1.eqr (c:=a) e2
    rw[if_neg (by omega)];omega
   ·rw[if_neg e2]at g2
    have:=h1.trans g1 g2
    rw[if_neg (by omega)];exact this
 ·by_cases e1:c1 a b=0
  ·rw[if_pos e1]at e
   rw[h1.eql (c:=c) e1,h2.eql (c:=c) e]
  ·rw[if_neg e1]at e;exact absurd e e1
theorem zhS{cf:α→α→Int}(h:Cpr cf):∀a b:List α,lexC cf b a= - lexC cf a b
 | [],[]=>rfl
 | [],_::_=>rfl
 |_::_,[]=>rfl
 |x::l,y::m=>by
  simp only[lexC]
  have n1:=h.neg x y
  have n2:=zhS h l m
  split<;>split<;>omega
theorem ze6{cf:α→α→Int}(h:Cpr cf):∀{a b c:List α},lexC cf a b<0→lexC cf b c<0→lexC cf a c<0
 | [],[],_,h1,_=>absurd h1 (by simp[lexC])
 |_,[],[],_,h2=>absurd h2 (by simp[lexC])
 |_,_::_,[],_,h2=>absurd h2 (by simp[lexC])
 |_::_,[],_::_,h1,_=>absurd h1 (by simp[lexC])
 | [],_::_,_::_,_,_=>by simp[lexC]
 |x::l,y::m,z::n,g1,g2=>by
  simp only[lexC]at g1 g2 ⊢
  by_cases e1:cf x y=0
  ·rw[if_pos e1]at g1
   have e3:=h.eql (c:=z) e1
   by_cases e2:cf y z=0
   ·rw[if_pos e2]at g2
    rw[if_pos (by omega)]
    exact ze6 h g1 g2
   ·rw[if_neg e2]at g2
    rw[if_neg (by omega)];omega
  ·rw[if_neg e1]at g1
   by_cases e2:cf y z=0
   ·have e3:=h.eqr (c:=x) e2
    rw[if_neg (by omega)];omega
   ·rw[if_neg e2]at g2
    have:=h.trans g1 g2
    rw[if_neg (by omega)];exact this
theorem zhT{cf:α→α→Int}(h:Cpr cf):∀{a b:List α} (c:List α),lexC cf a b=0→lexC cf a c=lexC cf b c
 | [],[],_,_=>rfl
 | [],_::_,_,h1=>absurd h1 (by simp[lexC])
 |_::_,[],_,h1=>absurd h1 (by simp[lexC])
 |_::_,_::_,[],_=>rfl
 |x::l,y::m,z::n,e=>by
  simp only[lexC]at e ⊢
  by_cases e1:cf x y=0
  ·rw[if_pos e1]at e
   rw[h.eql (c:=z) e1,zhT h n e]
  ·rw[if_neg e1]at e;exact absurd e e1
theorem Cpr.lex{cf:α→α→Int}(h:Cpr cf):Cpr (lexC cf):=⟨zhS h,ze6 h,fun e=>zhT h _ e⟩
theorem cpr_I:Cpr cmpI:=by
 refine⟨fun a b=>?_,fun {a b c} h1 h2=>?_,fun {a b c} e=>?_⟩
 ·simp only[cmpI];(repeat' split)<;>omega
 ·simp only[cmpI]at*;(repeat' split at h1)<;>(repeat' split at h2)<;>(repeat' split)<;>omega
 ·have:a=b:=by simp only[cmpI]at e;(repeat' split at e)<;>omega
  rw[this]
theorem cpr_N:Cpr cmpN:=⟨fun a b=>cmpN_neg a b,fun h1 h2=>zgW h1 h2,fun e=>by rw[zdN e]⟩
theorem cpr_F2:Cpr zfg:=cpr_N.map zao
theorem cpr_L:Cpr cmpL:=⟨fun a b=>zdq a b,fun h1 h2=>zcI h1 (by omega),fun e=>by rw[zbt e]⟩
theorem cpr_D:Cpr cmpD:=by
 have h:=(cpr_I.map DatL.ty).or ((cpr_F2.lex.map DatL.names).or ((cpr_I.lex.map DatL.nums).or ((cpr_L.lex.map DatL.texts).or ((cpr_L.map DatL.raw).or Cpr.const))))
 exact h
theorem cpr_R:Cpr zau:=by
 have h:=(cpr_F2.map RecL.owner).or ((cpr_I.map fun r:RecL=>r.dat.ty).or ((cpr_D.map RecL.dat).or Cpr.const))
 exact h
end
section
variable {α : Type} (cf : α → α → Int) (jn : α → α → α)
def putC(r:α):List α→List α
 | []=>[r]
 |x::l=>if cf x r<0 then x::putC r l else if cf x r=0 then jn x r::l else r::x::l
variable {cf jn}
structure Join(cf:α→α→Int)(jn:α→α→α):Prop where
 same:∀a b c,cf a b=0→cf (jn a b) c=cf a c
theorem zdl{Q:α→Prop}{r:α}{l:List α}(hj:∀x,Q x→cf x r=0→Q (jn x r))(hr:Q r)(hl:∀x∈l,Q x):∀x∈putC cf jn r l,Q x:=by
 induction l with
 |nil=>intro x hx;rw[List.mem_singleton.1 hx];exact hr
 |cons y l ih=>
  intro x hx
  unfold putC at hx
  split at hx
  ·rcases List.mem_cons.1 hx with rfl|hx
   ·exact hl _ (List.mem_cons_self ..)
   ·exact ih (fun z hz=>hl z (List.mem_cons_of_mem _ hz)) x hx
  ·split at hx
   ·rename_i h0
    rcases List.mem_cons.1 hx with rfl|hx
    ·exact hj y (hl y (List.mem_cons_self ..)) h0
    ·exact hl x (List.mem_cons_of_mem _ hx)
   ·rcases List.mem_cons.1 hx with rfl|hx
    ·exact hr
    ·exact hl x hx
theorem zbq(hc:Cpr cf)(hj:Join cf jn){r:α}:∀{l:List α},l.Pairwise (fun a b=>cf a b<0)→(putC cf jn r l).Pairwise (fun a b=>cf a b<0)
 | [],_=>List.pairwise_singleton _ _
 |y::l,h=>by
  obtain⟨h1,h2⟩:=List.pairwise_cons.1 h
  unfold putC
  split
  ·rename_i hy
   refine List.pairwise_cons.2 ⟨?_,zbq hc hj h2⟩
   refine zdl (Q:=fun x=>cf y x<0) (fun x hx h0=>?_) hy h1
   have:=hj.same x r y h0
   have n1:=hc.neg y (jn x r)
   have n2:=hc.neg y x
   omega
  ·split
   ·rename_i h0
    refine List.pairwise_cons.2 ⟨fun x hx=>?_,h2⟩
    rw[hj.same y r x h0];exact h1 x hx
   ·rename_i g1 g2
    refine List.pairwise_cons.2 ⟨fun x hx=>?_,h⟩
    have n1:=hc.neg y r
    have hry:cf r y<0:=by omega
    rcases List.mem_cons.1 hx with rfl|hx
    ·exact hry
    ·exact hc.trans hry (h1 x hx)
theorem zcB(hc:Cpr cf)(hj:Join cf jn){a b:α}(hab:cf a b<0):∀(l:List α),l.Pairwise (fun a b=>cf a b<0)→putC cf jn a (putC cf jn b l)=putC cf jn b (putC cf jn a l)
 | [],_=>by
  have n1:=hc.neg a b
  simp only[putC]
  rw[if_neg (by omega),if_neg (by omega),if_pos hab]
 |x::l,h=>by
  obtain⟨h1,h2⟩:=List.pairwise_cons.1 h
  have n1:=hc.neg a b
  have n2:=hc.neg x a
  have n3:=hc.neg x b
  by_cases ea:cf x a<0
  ·have eb:cf x b<0:=hc.trans ea hab
   simp only[putC,if_pos ea,if_pos eb]
   rw[zcB hc hj hab l h2]
  ·by_cases ea0:cf x a=0
   ·have eb:cf x b<0:=by rw[hc.eql (c:=b) ea0];exact hab
    have e2:=hj.same x a b ea0
    have e3:=hj.same x a a ea0
    simp only[putC]
    rw[if_pos eb,if_neg ea,if_pos ea0]
    simp only[putC]
    rw[if_neg ea,if_pos ea0,if_pos (by omega)]
   ·by_cases eb:cf x b<0
    ·simp only[putC]
     rw[if_pos eb,if_neg ea,if_neg ea0]
     simp only[putC]
     rw[if_neg ea,if_neg ea0,if_pos hab,if_pos eb]
    ·by_cases eb0:cf x b=0
     ·have e2:=hj.same x b a eb0
      simp only[putC]
      rw[if_neg eb,if_pos eb0,if_neg ea,if_neg ea0]
      simp only[putC]
      rw[if_neg (by omega),if_neg (by omega),if_pos hab,if_neg eb,if_pos eb0]
     ·simp only[putC]
      rw[if_neg eb,if_neg eb0,if_neg ea,if_neg ea0]
      simp only[putC]
      rw[if_neg (by omega),if_neg (by omega),if_pos hab,if_neg eb,if_neg eb0]
end
section
variable {α β : Type} {cf : α → α → Int} {jn : α → α → α}
def zbC(cf:α→α→Int)(jn:α→α→α)(p:β→α)(l:List β)(acc:List α):List α:=l.foldl (fun acc r=>putC cf jn (p r) acc) acc
theorem zeg(hc:Cpr cf)(hj:Join cf jn){p:β→α}{r:β}{Z2:List β}:∀(Z1:List β) (acc:List α),(∀z∈Z1,cf (p z) (p r)<0)→acc.Pairwise (fun a b=>cf a b<0)→
  zbC cf jn p (Z1++r::Z2) acc=zbC cf jn p (Z1++Z2) (putC cf jn (p r) acc)
 | [],_,_,_=>rfl
 |z::Z1,acc,h,hs=>by
  have ih:=zeg hc hj (p:=p) (r:=r) (Z2:=Z2) Z1 (putC cf jn (p z) acc) (fun y hy=>h y (List.mem_cons_of_mem _ hy)) (zbq hc hj hs)
  have hcm:=zcB hc hj (h z (List.mem_cons_self ..)) acc hs
  show zbC cf jn p (Z1++r::Z2) (putC cf jn (p z) acc)=zbC cf jn p (Z1++Z2) (putC cf jn (p z) (putC cf jn (p r) acc))
  rw[ih,hcm]
theorem zde(hc:Cpr cf)(hj:Join cf jn){p:β→α}{lt older:β→β→Prop}(hlt:∀{a b},lt a b→cf (p a) (p b)<0∨older a b)(has:∀{a b},older a b→¬older b a):
  ∀(D Z:List β) (acc:List α),D.Pairwise older→Z.Pairwise lt→Z.Perm D→acc.Pairwise (fun a b=>cf a b<0)→zbC cf jn p Z acc=zbC cf jn p D acc
 | [],Z,acc,_,_,hp,_=>by rw[hp.eq_nil]
 |r::D,Z,acc,hD,hZ,hp,hs=>by
  obtain⟨d1,d2⟩:=List.pairwise_cons.1 hD
  obtain⟨Z1,Z2,rfl⟩:=List.append_of_mem (hp.mem_iff.2 (List.mem_cons_self ..))
  have hp2:(Z1++Z2).Perm D:=(List.perm_middle.symm.trans hp).cons_inv
  obtain⟨z1,z2,z3⟩:=List.pairwise_append.1 hZ
  have hb:∀z∈Z1,cf (p z) (p r)<0:=fun z hz=>by
   rcases hlt (z3 z hz r (List.mem_cons_self ..)) with h|h
   ·exact h
   ·exact absurd h (has (d1 z (hp2.mem_iff.1 (List.mem_append_left _ hz))))
  rw[zeg hc hj Z1 acc hb hs]
  refine zde (lt:=lt) (older:=older) hc hj hlt has D (Z1++Z2) (putC cf jn (p r) acc) d2 ?_ hp2 (zbq hc hj hs)
  exact List.pairwise_append.2 ⟨z1,(List.pairwise_cons.1 z2).2,fun a ha b hb=>z3 a ha b (List.mem_cons_of_mem _ hb)⟩
theorem zeW{r x:α}:∀{O:List α},(∀y∈O,cf y r<0)→¬0<cf x r→putC cf jn r (O++ [x])=if cf x r=0 then O++ [jn x r] else O++ [x,r]
 | [],_,h=>by
  simp only[List.nil_append,putC]
  by_cases h0:cf x r=0
  ·rw[if_neg (by omega),if_pos h0,if_pos h0]
  ·rw[if_pos (by omega),if_neg h0]
 |y::O,hO,h=>by
  have hy:=hO y (List.mem_cons_self ..)
  have ih:=zeW (r:=r) (x:=x) (O:=O) (fun z hz=>hO z (List.mem_cons_of_mem _ hz)) h
  simp only[List.cons_append,putC]
  rw[if_pos hy,ih]
  split<;>rfl
end
/-! ### records -/
def zba(l:List RecL):List RecL:=zbC zau (fun a b=>{a with ttl:=min a.ttl b.ttl}) (fun r=>r) l []
theorem zhZ:Join zau (fun a b=>{a with ttl:=min a.ttl b.ttl}):=⟨fun _ _ _ _=>rfl⟩
end Go.Proofs.YtanmnkbccfcagaaGreatDoor
namespace Go.Proofs.YtanmnkbccfcagaaGreatDoor.P_rr
open Go Go.Proofs.YtanmnkbccfcagaaGreatDoor
set_option maxRecDepth 10000
theorem Clip_ok{w:World}{a:Option Addr}{n c:Nat}(hc:n≤c):Fn Tryz.prog 188 #[.slice a n c] w (fun u w'=>u= .slice a n n∧w'=w):=by
 refine enter Tryz.func188 Tryz.ntmps188 rfl rfl ?_
 repeat refine c_r ?_
 refine rg0 ?_
 repeat refine c_r ?_
 refine rq ?_;intro gd K hgd hK
 try simp only[go_sem]
 have hcl:slD Tryz.prog (some (TypeDesc.slice 35)) (Value.slice a n c) Option.none (some (Value.int IntKind.i64 ↑n)) (some (Value.int IntKind.i64 ↑n))=some (.slice a n n):=s_clip hc (by rfl)
 rw[hcl]
 try simp only[go_sem]
 refine hK _ _ ?_;clear hK hgd;clear K;try clear gd
 repeat refine c_r ?_
 refine rt0 Tryz.ntmps188 ?_
 exact⟨rfl,rfl⟩
end Go.Proofs.YtanmnkbccfcagaaGreatDoor.P_rr
namespace Go.Proofs.YtanmnkbccfcagaaGreatDoor.S_rec
open Go Go.Proofs.YtanmnkbccfcagaaGreatDoor
set_option maxRecDepth 10000
section
variable {α : Type} {enc : α → List Value}
abbrev Lies(enc:α→List Value)(w:World)(b cap:Nat)(D:List α):Prop:=SD 7 w b 35 cap (D.map enc)
def zbX(b n cap:Nat):Value:= .slice (some ⟨b,0,Option.none⟩) n cap
theorem Lies.get{w:World}{b cap:Nat}{D:List α}(h:Lies enc w b cap D){j:Nat}{x:α}(hx:D[j]? =some x):zav w (some ⟨b,j*7,Option.none⟩) 7=some (enc x):=by
 obtain⟨hj,e⟩:=List.getElem?_eq_some_iff.1 hx
 have:=SD.get h (j:=j) (by simpa using hj)
 rw[this,List.getElem_map,e]
theorem Lies.enc_len{w:World}{b cap:Nat}{D:List α}(h:Lies enc w b cap D){x:α}(hx:x∈D):(enc x).length=7:=h.len _ (List.mem_map_of_mem hx)
theorem Lies.enc_one{w:World}{b cap:Nat}{D:List α}(h:Lies enc w b cap D){x:α}(hx:x∈D):∀v∈enc x,one v=true:=h.ones _ (List.mem_map_of_mem hx)
theorem zeO{w:World}{b cap:Nat}{A X M Y B:List α}{n:Nat}(hX:X.length=n)(hY:Y.length=n)(hD:Lies enc w b cap (A++X++M++Y++B))(hlen:(A++X++M++Y++B).length≤1000000000000){cmp:Value}:
  Fn Tryz.prog 290 #[zbX b (A++X++M++Y++B).length cap,vi A.length,vi (A.length+X.length+M.length:Nat),vi n,cmp] w (fun _ w'=>Lies enc w' b cap (A++Y++M++X++B)∧Keep (fun i=>i=b) w w'):=by
 obtain⟨N,hN⟩:∃N,(A++X++M++Y++B).length=N:=⟨_,rfl⟩
 have hN':=hN
 simp only[List.length_append]at hN'
 rw[hN]at hlen ⊢
 obtain⟨q,hq⟩:∃q,A.length+X.length+M.length=q:=⟨_,rfl⟩
 rw[hq]
 unfold zbX
 refine enter Tryz.func290 Tryz.ntmps290 rfl rfl ?_
 repeat (first|refine c_r ?_|refine rg0 ?_)
 refine zas (fun m σ ds v=>ds=[]∧∃i:Nat,i+m=n∧σ 10=vi i∧σ 0= .slice (some ⟨b,0,Option.none⟩) N cap∧σ 1=vi A.length∧σ 2=vi q∧σ 3=vi n∧Lies enc v b cap (zbl A X M Y B i)∧Keep (fun i=>i=b) w v) n ?_ ?_
 ·refine⟨rfl,0,by omega,?_,?_,?_,?_,?_,by rw[zeP];exact hD,Keep.refl _ _⟩
  ·simp only[go_sem];rfl
  ·simp only[go_sem]
  ·simp only[go_sem]
  ·simp only[go_sem]
  ·simp only[go_sem]
 ·rintro m σ ds v ⟨rfl,i,him,h10,h0,h1,h2,h3,hL,hK⟩
  repeat refine c_r ?_
  refine rg2 h10 h3 ?_
  repeat refine c_r ?_
  refine wc0 ?_ ?_
  ·intro hlt
   simp only[decide_eq_true_eq]at hlt
   have hiX:i<X.length:=by omega
   have hiY:i<Y.length:=by omega
   obtain⟨hst,hg1,hg2⟩:=zfw (A:=A) (M:=M) (B:=B) hiX hiY
   have hLl:(zbl A X M Y B i).length=N:=by rw[zgw (by omega) (by omega),hN]
   rw[hq]at hg2
   have c1:=hL.get hg1
   have c2:=hL.get hg2
   have m1:=List.mem_of_getElem? hg1
   have m2:=List.mem_of_getElem? hg2
   have x1:((A.length:Int)+i).toNat=A.length+i:=by omega
   have x2:((q:Int)+i).toNat=q+i:=by omega
   repeat refine c_r ?_
   refine zaK (fun i=>i==21||i==23) [(0,true),(1,true),(2,true),(3,true),(4,true),(5,true),(6,true),(7,true),(8,true),(9,true),(10,true),(11,true),(12,true),(13,true),(14,true),(15,true),(16,true),(17,true),(18,true),(19,true),(20,true),(21,false),(22,true),(23,false)] NoS mixed (by kernel_rfl) ?_;intro gd K x hgd hx hxe hK;clear hxe
   have hLx:Lies enc x b cap (zbl A X M Y B i):=SD.ext hL hx
   have d1:=hLx.get hg1
   have d2:=hLx.get hg2
   simp (disch:=first|omega|assumption|rfl) only[go_sem,h10,h0,h1,h2,x1,x2,d1,d2]
   refine SD.set (P:=Tryz.prog) (t:=35) hLx (j:=A.length+i) (by simpa using by omega) (hL.enc_len m2) (hL.enc_one m2) rfl rfl ?_
   intro w1 hs1 hL1 hk1
   refine⟨.inl rfl,?_⟩
   simp (disch:=first|omega|assumption|rfl) only[go_sem,x2]
   refine SD.set (P:=Tryz.prog) (t:=35) hL1 (j:=q+i) (by simpa using by omega) (hL.enc_len m1) (hL.enc_one m1) rfl rfl ?_
   intro w2 hs2 hL2 hk2
   refine⟨.inl rfl,?_⟩
   simp (disch:=first|omega|assumption|rfl) only[go_sem]
   refine hK _ _ ?_;clear hK hgd;clear K;try clear gd
   repeat refine c_r ?_
   refine rg1 h10 ?_
   repeat refine c_r ?_
   refine⟨m - 1,by omega,rfl,i+1,by omega,by simp only[go_sem];push_cast;rfl,(vq1 h0),(vq1 h1),(vq1 h2),(vq1 h3),?_,((hK.trans (Ext.keep hx)).trans hk1).trans hk2⟩
   rw[←hst,hq]
   unfold Lies
   rw[List.map_set,List.map_set]
   exact hL2
  ·intro hge
   simp only[decide_eq_false_iff_not]at hge
   repeat refine c_r ?_
   refine zaw (by simp) rfl ?_
   have:i=n:=by omega
   subst this
   rw[zgx hX hY]at hL
   exact⟨hL,hK⟩
theorem zbV{w:World}{b cap:Nat}{D A X M Y B:List α}{p q n N:Nat}(hDe:D=A++X++M++Y++B)(hN:D.length=N)(hp:A.length=p)(hq:A.length+X.length+M.length=q)(hX:X.length=n)(hY:Y.length=n)(hD:Lies enc w b cap D)(hlen:N≤1000000000000){cmp:Value}:
  Fn Tryz.prog 290 #[zbX b N cap,vi p,vi q,vi n,cmp] w (fun _ w'=>Lies enc w' b cap (A++Y++M++X++B)∧Keep (fun i=>i=b) w w'):=by
 subst hDe hN hp hq
 exact zeO hX hY hD hlen
theorem zhv{w:World}{b cap:Nat}{D A X Y B:List α}{p q r N:Nat}(hDe:D=A++X++Y++B)(hN:D.length=N)(hp:A.length=p)(hq:A.length+X.length=q)(hr:A.length+X.length+Y.length=r)(hX:X≠ [])(hY:Y≠ [])(hD:Lies enc w b cap D)(hlen:N≤1000000000000){cmp:Value}:
  Fn Tryz.prog 285 #[zbX b N cap,vi p,vi q,vi r,cmp] w (fun _ w'=>Lies enc w' b cap (A++Y++X++B)∧Keep (fun i=>i=b) w w'):=by
 have hDl:=congrArg List.length hDe
 simp only[List.length_append]at hDl
 have hXp:0<X.length:=List.length_pos_iff.2 hX
 have hYp:0<Y.length:=List.length_pos_iff.2 hY
 unfold zbX
 refine enter Tryz.func285 Tryz.ntmps285 rfl rfl ?_
 repeat (first|refine c_r ?_|refine rg0 ?_)
 refine zas (fun m σ ds v=>ds=[]∧∃(P X' Y' Q:List α),X'.length+Y'.length=m∧0<X'.length∧0<Y'.length∧P.length+X'.length=q∧P.length+X'.length+Y'.length+Q.length=N∧P++Y'++X'++Q=A++Y++X++B∧σ 10=vi X'.length∧σ 11=vi Y'.length∧σ 0= .slice (some ⟨b,0,Option.none⟩) N cap∧σ 2=vi q∧σ 4=cmp∧
  Lies enc v b cap (P++X'++Y'++Q)∧Keep (fun i=>i=b) w v) (X.length+Y.length) ?_ ?_
 ·refine⟨rfl,A,X,Y,B,rfl,hXp,hYp,hq,by omega,rfl,?_,?_,?_,?_,?_,by rw[←hDe];exact hD,Keep.refl _ _⟩
  ·have:(q:Int) - p=X.length:=by omega
   simp only[go_sem,this]
  ·have:(r:Int) - q=Y.length:=by omega
   simp only[go_sem,this]
  ·simp only[go_sem]
  ·simp only[go_sem]
  ·simp only[go_sem]
 ·rintro m σ ds v ⟨rfl,P,X',Y',Q,hm,hx0,hy0,hPq,hPN,hT,h10,h11,h0,h2,h4,hL,hK⟩
  have hDl':(P++X'++Y'++Q).length=N:=by simp only[List.length_append];omega
  have hqi:(q:Int) - X'.length=P.length:=by omega
  repeat refine c_r ?_
  refine rq ?_;intro gd K hgd hK;simp (disch:=first|omega|assumption|rfl) only[go_sem,h10,h11];refine hK _ _ ?_;clear hK hgd;clear K gd
  repeat refine c_r ?_
  refine wc0 ?_ ?_
  ·intro hne
   simp only[Bool.not_eq_true',decide_eq_false_iff_not]at hne
   repeat refine c_r ?_
   refine rq ?_;intro gd K hgd hK;simp (disch:=first|omega|assumption|rfl) only[go_sem,h10,h11];refine hK _ _ ?_;clear hK hgd;clear K gd
   repeat refine c_r ?_
   refine wc0 ?_ ?_
   ·intro hgt
    simp only[decide_eq_true_eq]at hgt
    have e1:P++X'++Y'++Q=P++X'.take Y'.length++X'.drop Y'.length++Y'++Q:=by
     rw[List.append_assoc P (X'.take Y'.length),List.take_append_drop]
    have l1:(X'.take Y'.length).length=Y'.length:=by simp;omega
    have l2:(X'.drop Y'.length).length=X'.length - Y'.length:=by simp
    repeat refine c_r ?_
    refine rq ?_;intro gd K hgd hK
    try simp (disch:=first|omega|assumption|rfl) only[go_sem,h0,h2,h10,h11,h4,hqi]
    refine Fn.mono (zbV (p:=P.length) (q:=q) e1 hDl' rfl (by rw[l1,l2];omega) l1 rfl hL hlen) ?_
    rintro _ w1 ⟨hL1,hK1⟩
    try simp only[go_sem]
    refine hK _ _ ?_;clear hK hgd;clear K;try clear gd
    repeat refine c_r ?_
    have hsub:(X'.length:Int) - Y'.length=(X'.drop Y'.length).length:=by rw[l2];omega
    refine rq ?_;intro gd K hgd hK;simp (disch:=first|omega|assumption|rfl) only[go_sem,h10,h11,hsub];refine hK _ _ ?_;clear hK hgd;clear K gd
    repeat refine c_r ?_
    refine⟨X'.length,by omega,rfl,P++Y',X'.drop Y'.length,X'.take Y'.length,Q,by rw[l1,l2];omega,by rw[l2];omega,by rw[l1];omega,by rw[l2,List.length_append];omega,by rw[l1,l2,List.length_append];omega,?_,(vq1 hsub),by simp only[go_sem,h11,l1],(vq1 h0),(vq1 h2),(vq1 h4),?_,hK.trans hK1⟩
    ·rw[←hT,List.append_assoc (P++Y'),List.take_append_drop]
    ·exact hL1
   ·intro hle
    simp only[decide_eq_false_iff_not]at hle
    have hlt:X'.length<Y'.length:=by omega
    obtain⟨d,hd⟩:∃d,Y'.length - X'.length=d:=⟨_,rfl⟩
    have e1:P++X'++Y'++Q=P++X'++Y'.take d++Y'.drop d++Q:=by
     rw[List.append_assoc (P++X') (Y'.take d),List.take_append_drop]
    have l1:(Y'.take d).length=d:=by simp;omega
    have l2:(Y'.drop d).length=X'.length:=by simp;omega
    have hqj:(q:Int)+Y'.length - X'.length=((q+d:Nat):Int):=by omega
    repeat refine c_r ?_
    refine rq ?_;intro gd K hgd hK
    try simp (disch:=first|omega|assumption|rfl) only[go_sem,h0,h2,h10,h11,h4,hqi,hqj]
    refine Fn.mono (zbV (p:=P.length) (q:=q+d) e1 hDl' rfl (by rw[l1];omega) rfl l2 hL hlen) ?_
    rintro _ w1 ⟨hL1,hK1⟩
    try simp only[go_sem]
    refine hK _ _ ?_;clear hK hgd;clear K;try clear gd
    repeat refine c_r ?_
    have hsub:(Y'.length:Int) - X'.length=(Y'.take d).length:=by rw[l1];omega
    refine rq ?_;intro gd K hgd hK;simp (disch:=first|omega|assumption|rfl) only[go_sem,h10,h11,hsub];refine hK _ _ ?_;clear hK hgd;clear K gd
    repeat refine c_r ?_
    refine⟨Y'.length,by omega,rfl,P,Y'.drop d,Y'.take d,X'++Q,by rw[l1,l2];omega,by rw[l2];omega,by rw[l1];omega,by rw[l2];omega,by rw[l1,l2,List.length_append];omega,?_,(vq2 h10 l2),(vq1 hsub),(vq1 h0),(vq1 h2),(vq1 h4),?_,hK.trans hK1⟩
    ·rw[←hT,List.append_assoc P (Y'.take d),List.take_append_drop];simp only[List.append_assoc]
    ·have:P++Y'.drop d++Y'.take d++X'++Q=P++Y'.drop d++Y'.take d++(X'++Q):=by simp only[List.append_assoc]
     rw[←this];exact hL1
  ·intro heq
   simp only[Bool.not_eq_false',decide_eq_true_eq]at heq
   have e1:P++X'++Y'++Q=P++X'++ []++Y'++Q:=by simp
   repeat refine c_r ?_
   refine rq ?_;intro gd K hgd hK
   try simp (disch:=first|omega|assumption|rfl) only[go_sem,h0,h2,h10,h4,hqi]
   refine Fn.mono (zbV (p:=P.length) (q:=q) (n:=X'.length) e1 hDl' rfl (by simpa using hPq) rfl (by omega) hL hlen) ?_
   rintro _ w1 ⟨hL1,hK1⟩
   try simp only[go_sem]
   refine hK _ _ ?_;clear hK hgd;clear K;try clear gd
   repeat refine c_r ?_
   refine zaw (by simp) rfl ⟨?_,hK.trans hK1⟩
   rw[←hT]
   simpa using hL1
end
section
variable {α : Type} {enc : α → List Value}
structure Cmp(w0:World)(enc:α→List Value)(U:α→Prop)(cf:α→α→Int)(g:FuncId)(cb:List Value):Prop where
 cal:zad Tryz.prog g=true
 call:∀(A:World) (x y:α),Ext w0 A→U x→U y→Fn Tryz.prog g (.agg (enc x).toArray:: .agg (enc y).toArray::cb).toArray A (fun v B=>v=vi (cf x y)∧Ext A B)
def cmpV(g:FuncId)(cb:List Value):Value:= .func (.func g) #[] cb.toArray
theorem zbT{w0 w:World}{b cap:Nat}{U:α→Prop}{cf:α→α→Int}{lt older:α→α→Prop}{g:FuncId}{cb:List Value}(hc:Cmp w0 enc U cf g cb)(ho:zfp cf lt older)
  {D A X B:List α} {p q N:Nat} (hDe:D=A++X++B) (hN:D.length=N) (hp:A.length=p) (hq:A.length+X.length=q) (hU:∀x∈X,U x) (hX:X.Pairwise older) (hD:Lies enc w b cap D) (hlen:N≤1000000000000)
  (hE:Ext w0 w) (hb:w0.heap.size≤b):
  Fn Tryz.prog 269 #[zbX b N cap,vi p,vi q,cmpV g cb] w (fun _ w'=>(∃Z,Z.Perm X∧Z.Pairwise lt∧Lies enc w' b cap (A++Z++B))∧Keep (fun i=>i=b) w w'):=by
 have hDl:=congrArg List.length hDe
 simp only[List.length_append]at hDl
 unfold zbX cmpV
 refine enter Tryz.func269 Tryz.ntmps269 rfl rfl ?_
 repeat (first|refine c_r ?_|refine rg0 ?_)
 refine zas (fun m σ ds v=>ds=[]∧∃(k:Nat) (S:List α),1≤k∧k+m=X.length+1∧S.Perm (X.take k)∧S.Pairwise lt∧σ 8=vi (p+k:Nat)∧σ 0= .slice (some ⟨b,0,Option.none⟩) N cap∧σ 1=vi p∧σ 2=vi q∧σ 3= .func (.func g) #[] cb.toArray∧
  Lies enc v b cap (A++S++X.drop k++B)∧Keep (fun i=>i=b) w v) X.length ?_ ?_
 ·refine⟨rfl,1,X.take 1,by omega,by omega,List.Perm.refl _,?_,?_,?_,?_,?_,?_,?_,Keep.refl _ _⟩
  ·match X with
   | []=>exact List.Pairwise.nil
   |x::_=>exact List.pairwise_singleton _ _
  ·simp only[go_sem];push_cast;rfl
  ·simp only[go_sem]
  ·simp only[go_sem]
  ·simp only[go_sem]
  ·simp only[go_sem]
  ·rw[List.append_assoc A,List.take_append_drop,←hDe];exact hD
 ·rintro m σ ds v ⟨rfl,k,S,hk1,hkm,hSp,hSs,h8,h0,h1,h2,h3,hL,hK⟩
  have hSl:=hSp.length_eq
  repeat refine c_r ?_
  refine rg2 h8 h2 ?_
  repeat refine c_r ?_
  refine wc0 ?_ ?_
  ·intro hlt
   simp only[decide_eq_true_eq]at hlt
   have hkX:k<X.length:=by omega
   have hSk:S.length=k:=by rw[hSl];simp;omega
   obtain⟨u,hu⟩:∃u,X[k]=u:=⟨_,rfl⟩
   have hUu:U u:=hU u (by rw[←hu];exact List.getElem_mem _)
   have hUS:∀y∈S,U y:=fun y hy=>hU y (List.mem_of_mem_take (hSp.mem_iff.1 hy))
   have hOS:∀y∈S,older y u:=fun y hy=>by
    have h1:=hX
    rw[za5 hkX,List.pairwise_append]at h1
    exact h1.2.2 y (hSp.mem_iff.1 hy) u (by rw[hu];exact List.mem_cons_self ..)
   have hdk:X.drop k=u::X.drop (k+1):=by rw[List.drop_eq_getElem_cons hkX,hu]
   rw[hdk]at hL
   repeat refine c_r ?_
   refine rg1 h8 ?_
   repeat refine c_r ?_
   refine zas (fun m σ ds v=>ds=[]∧∃(S1 S2:List α),S1.length=m∧S1++S2=S∧(∀y∈S2,lt u y)∧σ 9=vi (p+S1.length:Nat)∧σ 8=vi (p+k:Nat)∧σ 0= .slice (some ⟨b,0,Option.none⟩) N cap∧σ 1=vi p∧σ 2=vi q∧σ 3= .func (.func g) #[] cb.toArray∧
    Lies enc v b cap (A++S1++u::S2++X.drop (k+1)++B)∧Keep (fun i=>i=b) w v) S.length ?_ ?_
   ·refine⟨rfl,S,[],rfl,by simp,fun y hy=>(by cases hy),?_,?_,?_,?_,?_,?_,by simpa using hL,hK⟩
    ·simp only[go_sem,hSk]
    ·simp only[go_sem,h8]
    ·simp only[go_sem,h0]
    ·simp only[go_sem,h1]
    ·simp only[go_sem,h2]
    ·simp only[go_sem,h3]
   clear h8 h0 h1 h2 h3 hL hK
   rintro m2 σ ds v ⟨rfl,S1,S2,hm2,hS12,hS2,h9,h8,h0,h1,h2,h3,hL,hK⟩
   have hE0:Ext w0 v:=Keep.to_ext hE rfl (fun i hi=>by omega) hK
   have hl12:S1.length+S2.length=k:=by rw[←hSk,←hS12,List.length_append]
   -- the round's end:where u stays
   have hstay:∀(v':World),(∀y∈S1,lt y u)→Ext v v'→(S1++u::S2).Perm (X.take (k+1))∧(S1++u::S2).Pairwise lt∧Lies enc v' b cap (A++(S1++u::S2)++X.drop (k+1)++B):=fun v' hy0 hEv=>by
    refine⟨?_,?_,?_⟩
    ·rw[zag hkX,hu]
     refine List.Perm.trans ?_ (List.Perm.append_right [u] hSp)
     rw[←hS12,List.append_assoc]
     exact List.Perm.append_left S1 (by
      have:=(List.perm_append_comm (l₁:=[u]) (l₂:=S2));simpa using this)
    ·rw[←hS12,List.pairwise_append]at hSs
     rw[List.pairwise_append]
     refine⟨hSs.1,List.pairwise_cons.2 ⟨hS2,hSs.2.1⟩,fun y hy z hz=>?_⟩
     rcases List.mem_cons.1 hz with rfl|hz
     ·exact hy0 y hy
     ·exact hSs.2.2 y hy z hz
    ·have:A++(S1++u::S2)++X.drop (k+1)++B=A++S1++u::S2++X.drop (k+1)++B:=by simp only[List.append_assoc,List.cons_append]
     rw[this];exact SD.ext hL hEv
   rcases List.eq_nil_or_concat S1 with rfl| ⟨S1',y,hS1⟩
   ·simp only[List.length_nil,Nat.add_zero]at h9
    have hd:=decide_eq_false (Int.lt_irrefl (p:Int))
    repeat refine c_r ?_
    refine zaK (fun _=>false) [(0,true),(1,true),(2,true),(3,true),(4,true),(5,true),(6,true),(7,true),(8,true),(9,true),(10,true),(11,true),(12,true),(13,true),(14,false),(15,true),(16,true)] NoS mixed (by kernel_rfl) ?_;intro gd K x hgd hx hxe hK;clear hxe
    have hg3:∀n σ b,zap gd n σ (some (3,b))=zah (ev n σ (.tmp 21)) b:=(fun n σ b=>by rw[zab,show gd 3=some 21 from(by rw[hgd];rfl)];rfl)
    simp (disch:=first|omega|assumption|rfl) only[go_sem,h9,h1,hd,↓hg3]
    refine hK _ _ ?_;clear hK hgd;clear K;try clear gd
    obtain⟨r1,r2,r3⟩:=hstay x (fun y hy=>(by cases hy)) hx
    repeat refine c_r ?_
    refine wc0 ?_ ?_
    ·intro h;simp at h
    intro _
    repeat refine c_r ?_
    refine rg1 h8 ?_
    repeat refine c_r ?_
    exact⟨m - 1,by omega,rfl,k+1,_,by omega,by omega,r1,r2,by simp only[go_sem];push_cast;rfl,(vq1 h0),(vq1 h1),(vq1 h2),(vq1 h3),r3,hK.trans (Ext.keep hx)⟩
   ·rw[List.concat_eq_append]at hS1
    subst hS1
    rw[List.length_append,List.length_cons,List.length_nil]at hm2 hl12
    obtain⟨j,hj⟩:∃j,p+S1'.length=j:=⟨_,rfl⟩
    rw[List.length_append,List.length_cons,List.length_nil,←Nat.add_assoc,Nat.zero_add,hj]at h9
    have hd:decide ((p:Int)<((j+1:Nat):Int))=true:=decide_eq_true (by omega)
    have hs:((j+1:Nat):Int) - 1=(j:Int):=by omega
    have hAl:(A++S1').length=j:=by rw[List.length_append];omega
    have e1:A++(S1'++ [y])++u::S2++X.drop (k+1)++B=(A++S1')++y::[]++u::(S2++X.drop (k+1)++B):=by simp only[List.append_assoc,List.cons_append,List.nil_append]
    have e2:(A++S1')++u::[]++y::(S2++X.drop (k+1)++B)=A++S1'++u::(y::S2)++X.drop (k+1)++B:=by simp only[List.append_assoc,List.cons_append,List.nil_append]
    rw[e1]at hL
    have g1:((A++S1')++y::[]++u::(S2++X.drop (k+1)++B))[j]? =some y:=by
     rw[List.append_assoc,List.cons_append,←hAl];exact zbB _ _ _
    have g2:((A++S1')++y::[]++u::(S2++X.drop (k+1)++B))[j+1]? =some u:=by
     have:=zbB ((A++S1')++ [y]) (S2++X.drop (k+1)++B) u
     rwa [List.length_append,hAl]at this
    have hjN:j+1<N:=by omega
    have hyS:y∈S:=by rw[←hS12];simp
    repeat refine c_r ?_
    refine zaK (fun _=>false) [(0,true),(1,true),(2,true),(3,true),(4,true),(5,true),(6,true),(7,true),(8,true),(9,true),(10,true),(11,true),(12,true),(13,true),(14,false),(15,true),(16,true)] NoS mixed (by kernel_rfl) ?_;intro gd K x hgd hx hxe hK;clear hxe
    have hg3:∀n σ b,zap gd n σ (some (3,b))=zah (ev n σ (.tmp 21)) b:=(fun n σ b=>by rw[zab,show gd 3=some 21 from(by rw[hgd];rfl)];rfl)
    have hLx:Lies enc x b cap ((A++S1')++y::[]++u::(S2++X.drop (k+1)++B)):=SD.ext hL hx
    have d1:=hLx.get g1
    have d2:=hLx.get g2
    simp (disch:=first|omega|assumption|rfl) only[go_sem,h9,h1,h0,h3,hd,hs,d1,d2,↓hg3]
    refine zcu hc.cal (Fn.mono (hc.call x u y (hE0.trans hx) hUu (hUS y hyS)) ?_)
    rintro _ w1 ⟨rfl,hE1⟩
    refine⟨.inr (Ext.keep hE1),?_⟩
    simp (disch:=first|omega|assumption|rfl) only[go_sem,↓hg3]
    refine hK _ _ ?_;clear hK hgd;clear K;try clear gd
    have hx1:=hx.trans hE1
    repeat refine c_r ?_
    refine wc0 ?_ ?_
    ·intro hlt2
     simp only[decide_eq_true_eq]at hlt2
     have hLy:Lies enc w1 b cap ((A++S1')++y::[]++u::(S2++X.drop (k+1)++B)):=SD.ext hLx hE1
     have m1:=List.mem_of_getElem? g1
     have m2':=List.mem_of_getElem? g2
     repeat refine c_r ?_
     refine zaK (fun i=>i==15||i==17) [(0,true),(1,true),(2,true),(3,true),(4,true),(5,true),(6,true),(7,true),(8,true),(9,true),(10,true),(11,true),(12,true),(13,true),(14,true),(15,false),(16,true),(17,false)] NoS mixed (by kernel_rfl) ?_;intro gd K x hgd hx hxe hK;clear hxe
     rename_i x0 _
     have hLz:Lies enc x b cap ((A++S1')++y::[]++u::(S2++X.drop (k+1)++B)):=SD.ext hLy ‹Keep NoS w1 x›
     have d3:=hLz.get g1
     have d4:=hLz.get g2
     simp (disch:=first|omega|assumption|rfl) only[go_sem,h9,h0,hs,d3,d4]
     refine SD.set (P:=Tryz.prog) (t:=35) hLz (j:=j+1) (by rw[List.length_map];exact(List.getElem?_eq_some_iff.1 g2).1) (hL.enc_len m1) (hL.enc_one m1) rfl rfl ?_
     intro w2 hs2 hL2 hk2
     refine⟨.inl rfl,?_⟩
     simp (disch:=first|omega|assumption|rfl) only[go_sem,h9,hs]
     refine SD.set (P:=Tryz.prog) (t:=35) hL2 (j:=j) (by rw[List.length_set,List.length_map];exact(List.getElem?_eq_some_iff.1 g1).1) (hL.enc_len m2') (hL.enc_one m2') rfl rfl ?_
     intro w3 hs3 hL3 hk3
     refine⟨.inl rfl,?_⟩
     simp (disch:=first|omega|assumption|rfl) only[go_sem]
     refine hK _ _ ?_;clear hK hgd;clear K;try clear gd
     repeat refine c_r ?_
     refine rg2 h9 hs ?_
     repeat refine c_r ?_
     refine⟨m2 - 1,by omega,rfl,S1',y::S2,by omega,by rw[←hS12];simp,fun z hz=>?_,(vq2 hs hj),(vq1 h8),(vq1 h0),(vq1 h1),(vq1 h2),(vq1 h3),?_,(((hK.trans (Ext.keep hx1)).trans (Ext.keep ‹Keep NoS w1 x›)).trans hk2).trans hk3⟩
     ·rcases List.mem_cons.1 hz with rfl|hz
      ·exact ho.less (hOS _ hyS) hlt2
      ·exact hS2 z hz
     ·rw[←e2]
      have:=zdk (A++S1') [] (S2++X.drop (k+1)++B) y u (i:=j) (j:=j+1) hAl.symm (by rw[hAl];simp)
      rw[List.set_comm _ _ (by omega)]at this
      unfold Lies
      rw[←this,List.map_set,List.map_set]
      exact hL3
    ·intro hge2
     simp only[decide_eq_false_iff_not]at hge2
     have hly:=ho.more (hOS y hyS) hge2
     obtain⟨r1,r2,r3⟩:=hstay w1 (fun z hz=>by
      rcases List.mem_append.1 hz with hz|hz
      ·have h1:=hSs
       rw[←hS12,List.append_assoc,List.pairwise_append]at h1
       exact ho.trans (h1.2.2 z hz y (by simp)) hly
      ·rw[List.mem_singleton.1 hz];exact hly) hx1
     repeat refine c_r ?_
     refine rg1 h8 ?_
     repeat refine c_r ?_
     exact⟨m - 1,by omega,rfl,k+1,_,by omega,by omega,r1,r2,by simp only[go_sem];push_cast;rfl,(vq1 h0),(vq1 h1),(vq1 h2),(vq1 h3),r3,hK.trans (Ext.keep hx1)⟩
  ·intro hge
   simp only[decide_eq_false_iff_not]at hge
   repeat refine c_r ?_
   refine zaw (by simp) rfl ⟨⟨S,?_,hSs,?_⟩,hK⟩
   ·rwa [List.take_of_length_le (by omega)]at hSp
   ·rw[List.drop_of_length_le (by omega),List.append_nil]at hL;exact hL
end
section
variable {α : Type} {enc : α → List Value}
theorem zd2{w0 w:World}{b cap:Nat}{U:α→Prop}{cf:α→α→Int}{lt older:α→α→Prop}{g:FuncId}{cb:List Value}(hc:Cmp w0 enc U cf g cb)(ho:zfp cf lt older)
  {D A Y B:List α} {u:α} {p q r N:Nat} (hDe:D=A++u::Y++B) (hN:D.length=N) (hp:A.length=p) (hq:p+1=q) (hr:q+Y.length=r) (hUu:U u) (hU:∀y∈Y,U y) (hY:Y.Pairwise lt) (hold:∀y∈Y,older u y)
  (hD:Lies enc w b cap D) (hlen:N≤1000000000000) (hE:Ext w0 w) (hb:w0.heap.size≤b):
  Fn Tryz.prog 270 #[zbX b N cap,vi p,vi q,vi r,cmpV g cb] w (fun _ w'=>(∃Z,Z.Perm (u::Y)∧Z.Pairwise lt∧Lies enc w' b cap (A++Z++B))∧Keep (fun i=>i=b) w w'):=by
 have hDl:=congrArg List.length hDe
 simp only[List.length_append,List.length_cons]at hDl
 have hqp:(q:Int) - p=1:=by omega
 unfold zbX cmpV
 refine enter Tryz.func270 Tryz.ntmps270 rfl rfl ?_
 repeat refine c_r ?_
 refine rg2 hqp decide_true ?_
 repeat refine c_r ?_
 refine wc0 ?_ ?_
 rotate_left
 ·intro h;simp at h
 intro _
 repeat refine c_r ?_
 refine rg0 ?_
 repeat refine c_r ?_
 refine rg0 ?_
 repeat refine c_r ?_
 refine zas (fun m σ ds v=>ds=[]∧∃(s e:Nat),s+m=e∧e≤Y.length∧Cut lt u Y s e∧σ 10=vi (q+s:Nat)∧σ 11=vi (q+e:Nat)∧σ 0= .slice (some ⟨b,0,Option.none⟩) N cap∧σ 1=vi p∧σ 4= .func (.func g) #[] cb.toArray∧Ext w v) Y.length ?_ ?_
 ·refine⟨rfl,0,Y.length,by omega,Nat.le_refl _,Cut.start u Y,?_,?_,?_,?_,?_,Keep.refl _ _⟩
  ·simp only[go_sem];rfl
  ·simp only[go_sem,hr]
  ·simp only[go_sem]
  ·simp only[go_sem]
  ·simp only[go_sem]
 rintro m σ ds v ⟨rfl,s,e,hse,he,hcut,h10,h11,h0,h1,h4,hEv⟩
 have hLv:Lies enc v b cap D:=SD.ext hD hEv
 repeat refine c_r ?_
 refine rq ?_;intro gd K hgd hK;simp (disch:=first|omega|assumption|rfl) only[go_sem,h10,h11];refine hK _ _ ?_;clear hK hgd;clear K gd
 repeat refine c_r ?_
 refine wc0 ?_ ?_
 ·intro hlt
  simp only[decide_eq_true_eq]at hlt
  have hsum:((q+s:Nat):Int)+((q+e:Nat):Int)=((q+s+(q+e):Nat):Int):=by push_cast;rfl
  obtain⟨k,hk⟩:∃k,(s+e) / 2=k:=⟨_,rfl⟩
  have hdiv:(q+s+(q+e)) / 2=q+k:=by omega
  have hkY:k<Y.length:=by omega
  obtain⟨y,hy⟩:∃y,Y[k]=y:=⟨_,rfl⟩
  have hyk:Y[k]? =some y:=by rw[List.getElem?_eq_getElem hkY,hy]
  have hyY:y∈Y:=by rw[←hy];exact List.getElem_mem _
  have g1:D[p]? =some u:=by rw[hDe,List.append_assoc,List.cons_append,←hp];exact zbB _ _ _
  have g2:D[q+k]? =some y:=by
   have e1:D=A++ [u]++Y++B:=by rw[hDe];simp
   have hl:(A++ [u]).length=q:=by simp;omega
   rw[e1,List.append_assoc (A++ [u]),List.getElem?_append_right (by omega),hl,Nat.add_sub_cancel_left,List.getElem?_append_left hkY]
   exact hyk
  repeat refine c_r ?_
  refine rq ?_;intro gd K hgd hK;simp (disch:=first|omega|assumption|rfl) only[go_sem,h10,h11,hsum,hdiv];refine hK _ _ ?_;clear hK hgd;clear K gd
  repeat refine c_r ?_
  refine zaK (fun _=>false) [(0,true),(1,true),(2,true),(3,true),(4,true),(5,true),(6,true),(7,true),(8,true),(9,false),(10,true)] NoS mixed (by kernel_rfl) ?_;intro gd K x hgd hx hxe hK;clear hxe
  have hLx:Lies enc x b cap D:=SD.ext hLv hx
  have d1:=hLx.get g1
  have d2:=hLx.get g2
  simp (disch:=first|omega|assumption|rfl) only[go_sem,h0,h1,h4,d1,d2]
  refine zcu hc.cal (Fn.mono (hc.call x y u ((hE.trans hEv).trans hx) (hU y hyY) hUu) ?_)
  rintro _ w1 ⟨rfl,hE1⟩
  refine⟨.inr (Ext.keep hE1),?_⟩
  simp (disch:=first|omega|assumption|rfl) only[go_sem]
  refine hK _ _ ?_;clear hK hgd;clear K;try clear gd
  have hEv1:=(hEv.trans hx).trans hE1
  repeat refine c_r ?_
  refine wc0 ?_ ?_
  ·intro hl
   simp only[decide_eq_true_eq]at hl
   repeat refine c_r ?_
   refine rg0 ?_
   repeat refine c_r ?_
   refine⟨m - (k+1 - s),by omega,rfl,k+1,e,by omega,he,hcut.up ho.trans hY hyk (ho.less (hold y hyY) hl),by simp only[go_sem];push_cast;rfl,by simp only[go_sem,h11],(vq1 h0),(vq1 h1),(vq1 h4),hEv1⟩
  ·intro hl
   simp only[decide_eq_false_iff_not]at hl
   repeat refine c_r ?_
   refine rg0 ?_
   repeat refine c_r ?_
   refine⟨k - s,by omega,rfl,s,k,by omega,by omega,hcut.down ho.trans hY hyk (ho.more (hold y hyY) hl),(vq1 h10),vq0,(vq1 h0),(vq1 h1),(vq1 h4),hEv1⟩
 intro hge
 simp only[decide_eq_false_iff_not]at hge
 have hes:e=s:=by omega
 subst hes
 obtain⟨Y1,hY1⟩:∃Y1,Y.take e=Y1:=⟨_,rfl⟩
 obtain⟨Y2,hY2⟩:∃Y2,Y.drop e=Y2:=⟨_,rfl⟩
 have hY12:Y1++Y2=Y:=by rw[←hY1,←hY2];exact List.take_append_drop _ _
 have hY1l:Y1.length=e:=by rw[←hY1];simp;omega
 have hsorted:=Cut.sorted (lt:=lt) ho.trans hY hcut
 rw[hY1,hY2]at hsorted
 have hqe:((q+e:Nat):Int) - 1=((p+e:Nat):Int):=by omega
 repeat refine c_r ?_
 refine rg1 h1 ?_
 repeat refine c_r ?_
 refine zas (fun m σ ds v'=>ds=[]∧∃(i:Nat),i+m=e∧σ 13=vi (p+i:Nat)∧σ 10=vi (q+e:Nat)∧σ 0= .slice (some ⟨b,0,Option.none⟩) N cap∧Lies enc v' b cap (A++Y1.take i++u::Y1.drop i++Y2++B)∧Keep (fun i=>i=b) w v') e ?_ ?_
 ·refine⟨rfl,0,by omega,?_,?_,?_,?_,Ext.keep hEv⟩
  ·simp only[go_sem];rfl
  ·simp only[go_sem,h10]
  ·simp only[go_sem,h0]
  ·have:A++Y1.take 0++u::Y1.drop 0++Y2++B=D:=by rw[hDe,←hY12];simp
   rw[this];exact hLv
 clear h10 h11 h0 h1 h4
 rintro m2 σ ds v2 ⟨rfl,i,him,h13,h10,h0,hL2,hK2⟩
 repeat refine c_r ?_
 refine rg3 h13 h10 hqe ?_
 repeat refine c_r ?_
 refine wc0 ?_ ?_
 ·intro hlt
  simp only[decide_eq_true_eq]at hlt
  have hiY:i<Y1.length:=by omega
  obtain⟨z,hz⟩:∃z,Y1[i]=z:=⟨_,rfl⟩
  have hl1:(A++Y1.take i).length=p+i:=by simp;omega
  have e1:A++Y1.take i++u::Y1.drop i++Y2++B=(A++Y1.take i)++u::[]++z::(Y1.drop (i+1)++Y2++B):=by
   rw[List.drop_eq_getElem_cons hiY,hz];simp only[List.append_assoc,List.cons_append,List.nil_append]
  have e2:(A++Y1.take i)++z::[]++u::(Y1.drop (i+1)++Y2++B)=A++Y1.take (i+1)++u::Y1.drop (i+1)++Y2++B:=by
   rw[zag hiY,hz];simp only[List.append_assoc,List.cons_append,List.nil_append]
  rw[e1]at hL2
  have g1:((A++Y1.take i)++u::[]++z::(Y1.drop (i+1)++Y2++B))[p+i]? =some u:=by
   rw[List.append_assoc,List.cons_append,←hl1];exact zbB _ _ _
  have g2:((A++Y1.take i)++u::[]++z::(Y1.drop (i+1)++Y2++B))[p+i+1]? =some z:=by
   have:=zbB ((A++Y1.take i)++ [u]) (Y1.drop (i+1)++Y2++B) z
   rwa [List.length_append,hl1]at this
  have hs:((p+i:Nat):Int)+1=((p+i+1:Nat):Int):=by push_cast;rfl
  have hY12l:Y1.length+Y2.length=Y.length:=by rw[←hY12,List.length_append]
  have m1:=List.mem_of_getElem? g1
  have m2':=List.mem_of_getElem? g2
  repeat refine c_r ?_
  refine zaK (fun i=>i==15||i==17) [(0,true),(1,true),(2,true),(3,true),(4,true),(5,true),(6,true),(7,true),(8,true),(9,true),(10,true),(11,true),(12,true),(13,true),(14,true),(15,false),(16,true),(17,false)] NoS mixed (by kernel_rfl) ?_;intro gd K x hgd hx hxe hK;clear hxe
  have hLz:Lies enc x b cap ((A++Y1.take i)++u::[]++z::(Y1.drop (i+1)++Y2++B)):=SD.ext hL2 hx
  have d3:=hLz.get g1
  have d4:=hLz.get g2
  simp (disch:=first|omega|assumption|rfl) only[go_sem,h13,h0,hs,d3,d4]
  refine SD.set (P:=Tryz.prog) (t:=35) hLz (j:=p+i) (by rw[List.length_map];exact(List.getElem?_eq_some_iff.1 g1).1) (hL2.enc_len m2') (hL2.enc_one m2') rfl rfl ?_
  intro w2 hs2 hL3 hk2
  refine⟨.inl rfl,?_⟩
  simp (disch:=first|omega|assumption|rfl) only[go_sem,h13,hs]
  refine SD.set (P:=Tryz.prog) (t:=35) hL3 (j:=p+i+1) (by rw[List.length_set,List.length_map];exact(List.getElem?_eq_some_iff.1 g2).1) (hL2.enc_len m1) (hL2.enc_one m1) rfl rfl ?_
  intro w3 hs3 hL4 hk3
  refine⟨.inl rfl,?_⟩
  simp (disch:=first|omega|assumption|rfl) only[go_sem]
  refine hK _ _ ?_;clear hK hgd;clear K;try clear gd
  repeat refine c_r ?_
  refine rg2 h13 hs ?_
  repeat refine c_r ?_
  refine⟨m2 - 1,by omega,rfl,i+1,by omega,by simp only[go_sem];rfl,(vq1 h10),(vq1 h0),?_,((hK2.trans (Ext.keep hx)).trans hk2).trans hk3⟩
  rw[←e2]
  have:=zdk (A++Y1.take i) [] (Y1.drop (i+1)++Y2++B) u z (i:=p+i) (j:=p+i+1) hl1.symm (by rw[hl1];simp)
  unfold Lies
  rw[←this,List.map_set,List.map_set]
  exact hL4
 intro hge2
 simp only[decide_eq_false_iff_not]at hge2
 have hie:i=e:=by omega
 subst hie
 repeat refine c_r ?_
 refine zaw (by simp) rfl ⟨⟨Y1++u::Y2,?_,hsorted,?_⟩,hK2⟩
 ·rw[←hY12]
  have:=(List.perm_middle (l₁:=Y1) (l₂:=Y2) (a:=u));exact this
 ·rw[List.take_of_length_le (by omega),List.drop_of_length_le (by omega)]at hL2
  have:A++(Y1++u::Y2)++B=A++Y1++ [u]++Y2++B:=by simp
  rw[this];exact hL2
theorem zem{w0 w:World}{b cap:Nat}{U:α→Prop}{cf:α→α→Int}{lt older:α→α→Prop}{g:FuncId}{cb:List Value}(hc:Cmp w0 enc U cf g cb)(ho:zfp cf lt older)
  {D A X B:List α} {u:α} {p q r N:Nat} (hDe:D=A++X++u::B) (hN:D.length=N) (hp:A.length=p) (hq:p+X.length=q) (hr:q+1=r) (hX1:X.length≠1) (hUu:U u) (hU:∀y∈X,U y) (hX:X.Pairwise lt) (hold:∀x∈X,older x u)
  (hD:Lies enc w b cap D) (hlen:N≤1000000000000) (hE:Ext w0 w) (hb:w0.heap.size≤b):
  Fn Tryz.prog 270 #[zbX b N cap,vi p,vi q,vi r,cmpV g cb] w (fun _ w'=>(∃Z,Z.Perm (X++ [u])∧Z.Pairwise lt∧Lies enc w' b cap (A++Z++B))∧Keep (fun i=>i=b) w w'):=by
 have hDl:=congrArg List.length hDe
 simp only[List.length_append,List.length_cons]at hDl
 have hqp:¬((q:Int) - p=1):=by omega
 have hrq:(r:Int) - q=1:=by omega
 unfold zbX cmpV
 refine enter Tryz.func270 Tryz.ntmps270 rfl rfl ?_
 repeat refine c_r ?_
 refine rg1 (decide_eq_false hqp) ?_
 repeat refine c_r ?_
 refine wc0 ?_ ?_
 ·intro h;simp at h
 intro _
 repeat refine c_r ?_
 refine rg2 hrq decide_true ?_
 repeat refine c_r ?_
 refine wc0 ?_ ?_
 rotate_left
 ·intro h;simp at h
 intro _
 repeat refine c_r ?_
 refine rg0 ?_
 repeat refine c_r ?_
 refine rg0 ?_
 repeat refine c_r ?_
 refine zas (fun m σ ds v=>ds=[]∧∃(s e:Nat),s+m=e∧e≤X.length∧Cut lt u X s e∧σ 14=vi (p+s:Nat)∧σ 15=vi (p+e:Nat)∧σ 0= .slice (some ⟨b,0,Option.none⟩) N cap∧σ 2=vi q∧σ 4= .func (.func g) #[] cb.toArray∧Ext w v) X.length ?_ ?_
 ·refine⟨rfl,0,X.length,by omega,Nat.le_refl _,Cut.start u X,?_,?_,?_,?_,?_,Keep.refl _ _⟩
  ·simp only[go_sem];rfl
  ·simp only[go_sem,hq]
  ·simp only[go_sem]
  ·simp only[go_sem]
  ·simp only[go_sem]
 rintro m σ ds v ⟨rfl,s,e,hse,he,hcut,h14,h15,h0,h2,h4,hEv⟩
 have hLv:Lies enc v b cap D:=SD.ext hD hEv
 repeat refine c_r ?_
 refine rg2 h14 h15 ?_
 repeat refine c_r ?_
 refine wc0 ?_ ?_
 ·intro hlt
  simp only[decide_eq_true_eq]at hlt
  have hsum:((p+s:Nat):Int)+((p+e:Nat):Int)=((p+s+(p+e):Nat):Int):=by push_cast;rfl
  obtain⟨k,hk⟩:∃k,(s+e) / 2=k:=⟨_,rfl⟩
  have hdiv:(p+s+(p+e)) / 2=p+k:=by omega
  have hkX:k<X.length:=by omega
  obtain⟨y,hy⟩:∃y,X[k]=y:=⟨_,rfl⟩
  have hyk:X[k]? =some y:=by rw[List.getElem?_eq_getElem hkX,hy]
  have hyX:y∈X:=by rw[←hy];exact List.getElem_mem _
  have g1:D[q]? =some u:=by
   have:=zbB (A++X) B u
   rw[List.length_append,hp,hq]at this
   rw[hDe];exact this
  have g2:D[p+k]? =some y:=by
   rw[hDe,List.append_assoc,List.getElem?_append_right (by omega),hp,Nat.add_sub_cancel_left,List.getElem?_append_left hkX]
   exact hyk
  repeat refine c_r ?_
  refine rg4 h14 h15 hsum hdiv ?_
  repeat refine c_r ?_
  refine zaK (fun _=>false) [(0,true),(1,true),(2,true),(3,true),(4,true),(5,true),(6,true),(7,true),(8,true),(9,false),(10,true),(11,true)] NoS mixed (by kernel_rfl) ?_;intro gd K x hgd hx hxe hK;clear hxe
  have hLx:Lies enc x b cap D:=SD.ext hLv hx
  have d1:=hLx.get g1
  have d2:=hLx.get g2
  simp (disch:=first|omega|assumption|rfl) only[go_sem,h0,h2,h4,d1,d2]
  refine zcu hc.cal (Fn.mono (hc.call x u y ((hE.trans hEv).trans hx) hUu (hU y hyX)) ?_)
  rintro _ w1 ⟨rfl,hE1⟩
  refine⟨.inr (Ext.keep hE1),?_⟩
  simp (disch:=first|omega|assumption|rfl) only[go_sem]
  refine hK _ _ ?_;clear hK hgd;clear K;try clear gd
  have hEv1:=(hEv.trans hx).trans hE1
  repeat refine c_r ?_
  refine wc0 ?_ ?_
  ·intro hl
   simp only[Bool.not_eq_true',decide_eq_false_iff_not]at hl
   repeat refine c_r ?_
   refine rg0 ?_
   repeat refine c_r ?_
   refine⟨m - (k+1 - s),by omega,rfl,k+1,e,by omega,he,hcut.up ho.trans hX hyk (ho.more (hold y hyX) hl),by simp only[go_sem];push_cast;rfl,(vq1 h15),(vq1 h0),(vq1 h2),(vq1 h4),hEv1⟩
  ·intro hl
   simp only[Bool.not_eq_false',decide_eq_true_eq]at hl
   repeat refine c_r ?_
   refine rg0 ?_
   repeat refine c_r ?_
   refine⟨k - s,by omega,rfl,s,k,by omega,by omega,hcut.down ho.trans hX hyk (ho.less (hold y hyX) hl),(vq1 h14),vq0,(vq1 h0),(vq1 h2),(vq1 h4),hEv1⟩
 intro hge
 simp only[decide_eq_false_iff_not]at hge
 have hes:e=s:=by omega
 subst hes
 obtain⟨X1,hX1'⟩:∃X1,X.take e=X1:=⟨_,rfl⟩
 obtain⟨X2,hX2⟩:∃X2,X.drop e=X2:=⟨_,rfl⟩
 have hX12:X1++X2=X:=by rw[←hX1',←hX2];exact List.take_append_drop _ _
 have hX1l:X1.length=e:=by rw[←hX1'];simp;omega
 have hX12l:X1.length+X2.length=X.length:=by rw[←hX12,List.length_append]
 have hsorted:=Cut.sorted (lt:=lt) ho.trans hX hcut
 rw[hX1',hX2]at hsorted
 repeat refine c_r ?_
 refine rg1 h2 ?_
 repeat refine c_r ?_
 refine zas (fun m σ ds v'=>ds=[]∧∃(i:Nat),i=m∧i≤X2.length∧σ 17=vi (p+e+i:Nat)∧σ 14=vi (p+e:Nat)∧σ 0= .slice (some ⟨b,0,Option.none⟩) N cap∧Lies enc v' b cap (A++X1++X2.take i++u::X2.drop i++B)∧Keep (fun i=>i=b) w v') X2.length ?_ ?_
 ·refine⟨rfl,X2.length,rfl,Nat.le_refl _,?_,?_,?_,?_,Ext.keep hEv⟩
  ·have:p+e+X2.length=q:=by omega
   simp only[go_sem,this]
  ·simp only[go_sem,h14]
  ·simp only[go_sem,h0]
  ·have:A++X1++X2.take X2.length++u::X2.drop X2.length++B=D:=by rw[hDe,←hX12];simp
   rw[this];exact hLv
 clear h14 h15 h0 h2 h4
 rintro m2 σ ds v2 ⟨rfl,i,him,hi2,h17,h14,h0,hL2,hK2⟩
 repeat refine c_r ?_
 refine rg2 h17 h14 ?_
 repeat refine c_r ?_
 refine wc0 ?_ ?_
 ·intro hlt
  simp only[decide_eq_true_eq]at hlt
  obtain⟨j,hj⟩:∃j,i=j+1:=⟨i - 1,by omega⟩
  subst hj
  have hjX:j<X2.length:=by omega
  obtain⟨z,hz⟩:∃z,X2[j]=z:=⟨_,rfl⟩
  obtain⟨c,hcq⟩:∃c,p+e+j=c:=⟨_,rfl⟩
  have hl1:(A++X1++X2.take j).length=c:=by simp;omega
  have e1:A++X1++X2.take (j+1)++u::X2.drop (j+1)++B=(A++X1++X2.take j)++z::[]++u::(X2.drop (j+1)++B):=by
   rw[zag hjX,hz];simp only[List.append_assoc,List.cons_append,List.nil_append]
  have e2:(A++X1++X2.take j)++u::[]++z::(X2.drop (j+1)++B)=A++X1++X2.take j++u::X2.drop j++B:=by
   rw[List.drop_eq_getElem_cons hjX,hz];simp only[List.append_assoc,List.cons_append,List.nil_append]
  rw[e1]at hL2
  have g1:((A++X1++X2.take j)++z::[]++u::(X2.drop (j+1)++B))[c]? =some z:=by
   rw[List.append_assoc,List.cons_append,←hl1];exact zbB _ _ _
  have g2:((A++X1++X2.take j)++z::[]++u::(X2.drop (j+1)++B))[c+1]? =some u:=by
   have:=zbB ((A++X1++X2.take j)++ [z]) (X2.drop (j+1)++B) u
   rwa [List.length_append,hl1]at this
  have hc1:p+e+(j+1)=c+1:=by omega
  rw[hc1]at h17
  have hs:((c+1:Nat):Int) - 1=(c:Int):=by omega
  have m1:=List.mem_of_getElem? g1
  have m2':=List.mem_of_getElem? g2
  repeat refine c_r ?_
  refine zaK (fun i=>i==15||i==17) [(0,true),(1,true),(2,true),(3,true),(4,true),(5,true),(6,true),(7,true),(8,true),(9,true),(10,true),(11,true),(12,true),(13,true),(14,true),(15,false),(16,true),(17,false)] NoS mixed (by kernel_rfl) ?_;intro gd K x hgd hx hxe hK;clear hxe
  have hLz:Lies enc x b cap ((A++X1++X2.take j)++z::[]++u::(X2.drop (j+1)++B)):=SD.ext hL2 hx
  have d3:=hLz.get g1
  have d4:=hLz.get g2
  simp (disch:=first|omega|assumption|rfl) only[go_sem,h17,h0,hs,d3,d4]
  refine SD.set (P:=Tryz.prog) (t:=35) hLz (j:=c+1) (by rw[List.length_map];exact(List.getElem?_eq_some_iff.1 g2).1) (hL2.enc_len m1) (hL2.enc_one m1) rfl rfl ?_
  intro w2 hs2 hL3 hk2
  refine⟨.inl rfl,?_⟩
  simp (disch:=first|omega|assumption|rfl) only[go_sem,h17,hs]
  refine SD.set (P:=Tryz.prog) (t:=35) hL3 (j:=c) (by rw[List.length_set,List.length_map];exact(List.getElem?_eq_some_iff.1 g1).1) (hL2.enc_len m2') (hL2.enc_one m2') rfl rfl ?_
  intro w3 hs3 hL4 hk3
  refine⟨.inl rfl,?_⟩
  simp (disch:=first|omega|assumption|rfl) only[go_sem]
  refine hK _ _ ?_;clear hK hgd;clear K;try clear gd
  repeat refine c_r ?_
  refine rg2 h17 hs ?_
  repeat refine c_r ?_
  refine⟨m2 - 1,by omega,rfl,j,by omega,by omega,(vq2 hs hcq),(vq1 h14),(vq1 h0),?_,((hK2.trans (Ext.keep hx)).trans hk2).trans hk3⟩
  rw[←e2]
  have:=zdk (A++X1++X2.take j) [] (X2.drop (j+1)++B) z u (i:=c) (j:=c+1) hl1.symm (by rw[hl1];simp)
  rw[List.set_comm _ _ (by omega)]at this
  unfold Lies
  rw[←this,List.map_set,List.map_set]
  exact hL4
 intro hge2
 simp only[decide_eq_false_iff_not]at hge2
 have hie:i=0:=by omega
 subst hie
 repeat refine c_r ?_
 refine zaw (by simp) rfl ⟨⟨X1++u::X2,?_,hsorted,?_⟩,hK2⟩
 ·rw[←hX12]
  refine(List.perm_middle (l₁:=X1) (l₂:=X2) (a:=u)).trans ?_
  exact(List.perm_append_comm (l₁:=[u]) (l₂:=X1++X2))
 ·rw[List.take_zero,List.drop_zero,List.append_nil]at hL2
  have:A++(X1++u::X2)++B=A++X1++u::X2++B:=by simp
  rw[this];exact hL2
end
section
variable {α : Type} {enc : α → List Value}
theorem zdx{w0:World}{b cap:Nat}{U:α→Prop}{cf:α→α→Int}{lt older:α→α→Prop}{g:FuncId}{cb:List Value}(hc:Cmp w0 enc U cf g cb)(ho:zfp cf lt older)(hb:w0.heap.size≤b):
  ∀(fuel:Nat) (w:World) (D A X Y B:List α) (p q r N:Nat),X.length+Y.length≤fuel→D=A++X++Y++B→D.length=N→A.length=p→p+X.length=q→q+Y.length=r→X≠ []→Y≠ []→(∀x∈X,U x)→(∀y∈Y,U y)→
   X.Pairwise lt→Y.Pairwise lt→(∀x∈X,∀y∈Y,older x y)→Lies enc w b cap D→N≤1000000000000→Ext w0 w→
   Fn Tryz.prog 270 #[zbX b N cap,vi p,vi q,vi r,cmpV g cb] w (fun _ w'=>(∃Z,Z.Perm (X++Y)∧Z.Pairwise lt∧Lies enc w' b cap (A++Z++B))∧Keep (fun i=>i=b) w w'):=by
 intro fuel
 induction fuel with
 |zero=>
  intro w D A X Y B p q r N hf _ _ _ _ _ hX _
  exact absurd (List.length_eq_zero_iff.1 (by omega)) hX
 |succ fuel ih=>
  intro w D A X Y B p q r N hf hDe hN hp hq hr hXn hYn hUX hUY hX hY hold hD hlen hE
  have hXp:=List.length_pos_iff.2 hXn
  have hYp:=List.length_pos_iff.2 hYn
  by_cases hX1:X.length=1
  ·obtain⟨u,rfl⟩:=List.length_eq_one_iff.1 hX1
   exact zd2 hc ho (by rw[hDe];simp) hN hp (by simpa using hq) hr (hUX u (by simp)) hUY hY (fun y hy=>hold u (by simp) y hy) hD hlen hE hb
  by_cases hY1:Y.length=1
  ·obtain⟨u,rfl⟩:=List.length_eq_one_iff.1 hY1
   exact zem hc ho (by rw[hDe];simp) hN hp hq (by simpa using hr) hX1 (hUY u (by simp)) hUX hX (fun x hx=>hold x hx u (by simp)) hD hlen hE hb
  have hDl:=congrArg List.length hDe
  simp only[List.length_append]at hDl
  obtain⟨h,hh⟩:∃h,(X.length+Y.length) / 2=h:=⟨_,rfl⟩
  have hqp:¬((q:Int) - p=1):=by omega
  have hrq:¬((r:Int) - q=1):=by omega
  have hsum:(p:Int)+r=((p+r:Nat):Int):=by push_cast;rfl
  have hdiv:(p+r) / 2=p+h:=by omega
  have hn:((p+h:Nat):Int)+q=((p+h+q:Nat):Int):=by push_cast;rfl
  unfold zbX cmpV
  refine enter Tryz.func270 Tryz.ntmps270 rfl rfl ?_
  repeat refine c_r ?_
  refine rg1 (decide_eq_false hqp) ?_
  repeat refine c_r ?_
  refine wc0 ?_ ?_
  ·intro h;simp at h
  intro _
  repeat refine c_r ?_
  refine rg1 (decide_eq_false hrq) ?_
  repeat refine c_r ?_
  refine wc0 ?_ ?_
  ·intro h;simp at h
  intro _
  repeat refine c_r ?_
  refine rg2 hsum hdiv ?_
  repeat refine c_r ?_
  refine rg1 hn ?_
  repeat refine c_r ?_
  refine rg0 ?_
  repeat refine c_r ?_
  refine rg0 ?_
  repeat refine c_r ?_
  refine zaA (Q:=fun e σ' ds' v'=>e= .normal∧ds'=[]∧v'=w∧σ' 0= .slice (some ⟨b,0,Option.none⟩) N cap∧σ' 1=vi p∧σ' 2=vi q∧σ' 3=vi r∧σ' 4= .func (.func g) #[] cb.toArray∧σ' 18=vi (p+h:Nat)∧σ' 19=vi (p+h+q:Nat)∧
   ∃lo hi:Nat,σ' 20=vi (p+lo:Nat)∧σ' 21=vi (p+hi:Nat)∧lo≤hi∧hi≤X.length∧hi≤h∧h≤lo+Y.length∧(lo=0∨h=lo+Y.length)∧(hi=X.length∨hi=h)) ?_ ?_
  ·refine wc0 ?_ ?_
   ·intro hgt
    simp only[decide_eq_true_eq]at hgt
    have hs:((p+h+q:Nat):Int) - r=((p+(h - Y.length):Nat):Int):=by omega
    repeat refine c_r ?_
    refine rg1 hs ?_
    repeat refine c_r ?_
    refine rg0 ?_
    refine⟨rfl,rfl,rfl,vq0,vq0,vq0,vq0,vq0,vq0,vq0,h - Y.length,h,vq0,vq0,by omega,by omega,by omega,by omega,.inr (by omega),.inr rfl⟩
   ·intro hle
    simp only[decide_eq_false_iff_not]at hle
    repeat refine c_r ?_
    refine rg0 ?_
    repeat refine c_r ?_
    refine rg0 ?_
    refine⟨rfl,rfl,rfl,vq0,vq0,vq0,vq0,vq0,vq0,vq0,0,X.length,by simp only[go_sem];rfl,(vq1 hq),by omega,by omega,by omega,by omega,.inl rfl,.inl rfl⟩
  rintro _ σ1 _ v1 ⟨rfl,rfl,hv1,f0,f1,f2,f3,f4,f18,f19,lo,hi,f20,f21,hlh,hhX,hhh,hloY,hlo,hhi⟩
  rw[hv1]
  clear hv1 v1
  have hp1:((p+h+q:Nat):Int) - 1=((p+h+q - 1:Nat):Int):=by omega
  repeat refine c_r ?_
  refine rg2 f19 hp1 ?_
  repeat refine c_r ?_
  refine zas (fun m σ ds v=>ds=[]∧∃s e:Nat,s+m=e∧lo≤s∧e≤hi∧(s=lo∨∃x y,X[s - 1]? =some x∧Y[h - s]? =some y∧lt x y)∧(e=hi∨∃x y,X[e]? =some x∧Y[h - 1 - e]? =some y∧lt y x)∧
   σ 20=vi (p+s:Nat)∧σ 21=vi (p+e:Nat)∧σ 22=vi (p+h+q - 1:Nat)∧σ 0= .slice (some ⟨b,0,Option.none⟩) N cap∧σ 1=vi p∧σ 2=vi q∧σ 3=vi r∧σ 4= .func (.func g) #[] cb.toArray∧σ 18=vi (p+h:Nat)∧σ 19=vi (p+h+q:Nat)∧Ext w v) (hi - lo) ?_ ?_
  ·refine⟨rfl,lo,hi,by omega,Nat.le_refl _,Nat.le_refl _,.inl rfl,.inl rfl,(vq1 f20),(vq1 f21),vq0,(vq1 f0),(vq1 f1),(vq1 f2),(vq1 f3),(vq1 f4),(vq1 f18),(vq1 f19),Keep.refl _ _⟩
  clear f0 f1 f2 f3 f4 f18 f19 f20 f21
  rintro m σ ds v ⟨rfl,s,e,hse,hsl,heh,hF1,hF2,h20,h21,h22,h0,h1,h2,h3,h4,h18,h19,hEv⟩
  have hLv:Lies enc v b cap D:=SD.ext hD hEv
  repeat refine c_r ?_
  refine rg2 h20 h21 ?_
  repeat refine c_r ?_
  refine wc0 ?_ ?_
  ·intro hlt
   simp only[decide_eq_true_eq]at hlt
   have hsum2:((p+s:Nat):Int)+((p+e:Nat):Int)=((p+s+(p+e):Nat):Int):=by push_cast;rfl
   obtain⟨k,hk⟩:∃k,(s+e) / 2=k:=⟨_,rfl⟩
   have hdiv2:(p+s+(p+e)) / 2=p+k:=by omega
   have hkX:k<X.length:=by omega
   have hkY:h - 1 - k<Y.length:=by omega
   have hpk:((p+h+q - 1:Nat):Int) - ((p+k:Nat):Int)=((q+(h - 1 - k):Nat):Int):=by omega
   obtain⟨x',hx'⟩:∃x,X[k]=x:=⟨_,rfl⟩
   obtain⟨y,hy⟩:∃y,Y[h - 1 - k]=y:=⟨_,rfl⟩
   have gx:X[k]? =some x':=by rw[List.getElem?_eq_getElem hkX,hx']
   have gy:Y[h - 1 - k]? =some y:=by rw[List.getElem?_eq_getElem hkY,hy]
   have hxX:x'∈X:=by rw[←hx'];exact List.getElem_mem _
   have hyY:y∈Y:=by rw[←hy];exact List.getElem_mem _
   have g1:D[p+k]? =some x':=by
    rw[hDe,List.append_assoc,List.append_assoc,List.getElem?_append_right (by omega),hp,Nat.add_sub_cancel_left,List.getElem?_append_left hkX];exact gx
   have g2:D[q+(h - 1 - k)]? =some y:=by
    have hl:(A++X).length=q:=by rw[List.length_append];omega
    rw[hDe,List.append_assoc (A++X),List.getElem?_append_right (by omega),hl,Nat.add_sub_cancel_left,List.getElem?_append_left hkY];exact gy
   repeat refine c_r ?_
   refine rg4 h20 h21 hsum2 hdiv2 ?_
   repeat refine c_r ?_
   refine zaK (fun _=>false) [(0,true),(1,true),(2,true),(3,true),(4,true),(5,true),(6,true),(7,true),(8,true),(9,true),(10,true),(11,false),(12,true),(13,true)] NoS mixed (by kernel_rfl) ?_;intro gd K x hgd hx hxe hK;clear hxe
   have hLx:Lies enc x b cap D:=SD.ext hLv hx
   have d1:=hLx.get g1
   have d2:=hLx.get g2
   simp (disch:=first|omega|assumption|rfl) only[go_sem,h0,h4,h22,hpk,d1,d2]
   refine zcu hc.cal (Fn.mono (hc.call x y x' ((hE.trans hEv).trans hx) (hUY y hyY) (hUX x' hxX)) ?_)
   rintro _ w1 ⟨rfl,hE1⟩
   refine⟨.inr (Ext.keep hE1),?_⟩
   simp (disch:=first|omega|assumption|rfl) only[go_sem]
   refine hK _ _ ?_;clear hK hgd;clear K;try clear gd
   have hEv1:=(hEv.trans hx).trans hE1
   repeat refine c_r ?_
   refine wc0 ?_ ?_
   ·intro hl
    simp only[Bool.not_eq_true',decide_eq_false_iff_not]at hl
    repeat refine c_r ?_
    refine rg0 ?_
    repeat refine c_r ?_
    refine⟨m - (k+1 - s),by omega,rfl,k+1,e,by omega,by omega,heh,.inr ⟨x',y,by simpa using gx,by rw[show h - (k+1)=h - 1 - k from by omega];exact gy,ho.more (hold x' hxX y hyY) hl⟩,hF2,by simp only[go_sem];push_cast;rfl,(vq1 h21),(vq1 h22),(vq1 h0),(vq1 h1),(vq1 h2),(vq1 h3),(vq1 h4),(vq1 h18),(vq1 h19),hEv1⟩
   ·intro hl
    simp only[Bool.not_eq_false',decide_eq_true_eq]at hl
    repeat refine c_r ?_
    refine rg0 ?_
    repeat refine c_r ?_
    refine⟨k - s,by omega,rfl,s,k,by omega,hsl,by omega,hF1,.inr ⟨x',y,gx,gy,ho.less (hold x' hxX y hyY) hl⟩,(vq1 h20),vq0,(vq1 h22),(vq1 h0),(vq1 h1),(vq1 h2),(vq1 h3),(vq1 h4),(vq1 h18),(vq1 h19),hEv1⟩
  intro hge
  simp only[decide_eq_false_iff_not]at hge
  have hes:e=s:=by omega
  rw[hes]at hF2 heh
  clear hge hse h21 hes
  obtain⟨t,ht⟩:∃t,h - s=t:=⟨_,rfl⟩
  have hst:s+t=h:=by omega
  obtain⟨X1,hX1'⟩:∃X1,X.take s=X1:=⟨_,rfl⟩
  obtain⟨X2,hX2'⟩:∃X2,X.drop s=X2:=⟨_,rfl⟩
  obtain⟨Y1,hY1'⟩:∃Y1,Y.take t=Y1:=⟨_,rfl⟩
  obtain⟨Y2,hY2'⟩:∃Y2,Y.drop t=Y2:=⟨_,rfl⟩
  have c1:∀x∈X1,∀y∈Y2,lt x y:=by
   rw[←hX1',←hY2']
   refine cross ho.trans hX hY ?_
   rcases hF1 with hF1| ⟨x,y,a1,a2,a3⟩
   ·rcases hlo with hlo|hlo
    ·exact .inl (by omega)
    ·exact .inr (.inl (by omega))
   ·exact .inr (.inr ⟨x,y,a1,by rw[←ht];exact a2,a3⟩)
  have c2:∀y∈Y1,∀x∈X2,lt y x:=by
   rw[←hY1',←hX2']
   refine cross ho.trans hY hX ?_
   rcases hF2 with hF2| ⟨x,y,a1,a2,a3⟩
   ·rcases hhi with hhi|hhi
    ·exact .inr (.inl (by omega))
    ·exact .inl (by omega)
   ·exact .inr (.inr ⟨y,x,by rw[show t - 1=h - 1 - s from by omega];exact a2,a1,a3⟩)
  have hX12:X1++X2=X:=by rw[←hX1',←hX2'];exact List.take_append_drop _ _
  have hY12:Y1++Y2=Y:=by rw[←hY1',←hY2'];exact List.take_append_drop _ _
  have lX1:X1.length=s:=by rw[←hX1'];simp;omega
  have lY1:Y1.length=t:=by rw[←hY1'];simp;omega
  have lX2:X2.length=X.length - s:=by rw[←hX2'];simp
  have lY2:Y2.length=Y.length - t:=by rw[←hY2'];simp
  rw[←hX12,List.pairwise_append]at hX
  rw[←hY12,List.pairwise_append]at hY
  have hUX1:∀x∈X1,U x:=fun x hx=>hUX x (by rw[←hX12];exact List.mem_append_left _ hx)
  have hUX2:∀x∈X2,U x:=fun x hx=>hUX x (by rw[←hX12];exact List.mem_append_right _ hx)
  have hUY1:∀x∈Y1,U x:=fun x hx=>hUY x (by rw[←hY12];exact List.mem_append_left _ hx)
  have hUY2:∀x∈Y2,U x:=fun x hx=>hUY x (by rw[←hY12];exact List.mem_append_right _ hx)
  have ho1:∀x∈X1,∀y∈Y1,older x y:=fun x hx y hy=>hold x (by rw[←hX12];exact List.mem_append_left _ hx) y (by rw[←hY12];exact List.mem_append_left _ hy)
  have ho2:∀x∈X2,∀y∈Y2,older x y:=fun x hx y hy=>hold x (by rw[←hX12];exact List.mem_append_right _ hx) y (by rw[←hY12];exact List.mem_append_right _ hy)
  clear hX1' hX2' hY1' hY2' hF1 hF2
  have hend:((p+h+q:Nat):Int) - ((p+s:Nat):Int)=((q+t:Nat):Int):=by omega
  repeat refine c_r ?_
  refine rg3 h19 h20 hend ?_
  repeat refine c_r ?_
  refine zaA (Q:=fun e σ' ds' v'=>e= .normal∧ds'=[]∧v'=v∧σ' 0= .slice (some ⟨b,0,Option.none⟩) N cap∧σ' 1=vi p∧σ' 2=vi q∧σ' 3=vi r∧σ' 4= .func (.func g) #[] cb.toArray∧σ' 18=vi (p+h:Nat)∧σ' 20=vi (p+s:Nat)∧σ' 24=vi (q+t:Nat)∧σ' 185= .bool (decide (X2≠ []∧Y1≠ []))) ?_ ?_
  ·refine rq ?_;intro gd K hgd hK
   have hg3:∀n σ b,zap gd n σ (some (3,b))=zah (ev n σ (.tmp 181)) b:=(fun n σ b=>by rw[zab,show gd 3=some 181 from(by rw[hgd];rfl)];rfl)
   by_cases b1:((p+s:Nat):Int)<(q:Int)
   ·have hX2n:X2≠ []:=List.length_pos_iff.1 (by omega)
    by_cases b2:(q:Int)<((q+t:Nat):Int)
    ·have hY1n:Y1≠ []:=List.length_pos_iff.1 (by omega)
     try simp (disch:=first|omega|assumption|rfl) only[go_sem,h20,h2,decide_eq_true b1,decide_eq_true b2,↓hg3]
     refine hK _ _ ?_;clear hK hgd;clear K;try clear gd
     refine⟨rfl,rfl,rfl,(vq1 h0),(vq1 h1),(vq1 h2),(vq1 h3),(vq1 h4),(vq1 h18),(vq1 h20),vq0,?_⟩
     rw[show decide (X2≠ []∧Y1≠ [])=true from decide_eq_true ⟨hX2n,hY1n⟩]
     simp only[go_sem]
    ·have hY1n:Y1=[]:=List.length_eq_zero_iff.1 (by omega)
     try simp (disch:=first|omega|assumption|rfl) only[go_sem,h20,h2,decide_eq_true b1,decide_eq_false b2,↓hg3]
     refine hK _ _ ?_;clear hK hgd;clear K;try clear gd
     refine⟨rfl,rfl,rfl,(vq1 h0),(vq1 h1),(vq1 h2),(vq1 h3),(vq1 h4),(vq1 h18),(vq1 h20),vq0,?_⟩
     rw[show decide (X2≠ []∧Y1≠ [])=false from decide_eq_false (fun hx=>hx.2 hY1n)]
     simp only[go_sem]
   ·have hX2n:X2=[]:=List.length_eq_zero_iff.1 (by omega)
    try simp (disch:=first|omega|assumption|rfl) only[go_sem,h20,h2,decide_eq_false b1,↓hg3]
    refine hK _ _ ?_;clear hK hgd;clear K;try clear gd
    refine⟨rfl,rfl,rfl,(vq1 h0),(vq1 h1),(vq1 h2),(vq1 h3),(vq1 h4),(vq1 h18),(vq1 h20),vq0,?_⟩
    rw[show decide (X2≠ []∧Y1≠ [])=false from decide_eq_false (fun hx=>hx.1 hX2n)]
    simp only[go_sem]
  clear h0 h1 h2 h3 h4 h18 h19 h20 h22
  rintro _ σ2 _ v2 ⟨rfl,rfl,hv2,h0,h1,h2,h3,h4,h18,h20,h24,h185⟩
  rw[hv2]
  clear hv2 v2
  repeat refine c_r ?_
  refine zaA (Q:=fun e σ' ds' v'=>e= .normal∧ds'=[]∧σ' 0= .slice (some ⟨b,0,Option.none⟩) N cap∧σ' 1=vi p∧σ' 3=vi r∧σ' 4= .func (.func g) #[] cb.toArray∧σ' 18=vi (p+h:Nat)∧σ' 20=vi (p+s:Nat)∧σ' 24=vi (q+t:Nat)∧
   Lies enc v' b cap (A++X1++Y1++X2++Y2++B)∧Keep (fun i=>i=b) w v') ?_ ?_
  ·refine zaL (by simp only[go_sem,h185];rfl) ?_ ?_
   ·intro hcc
    simp only[decide_eq_true_eq]at hcc
    repeat refine c_r ?_
    refine rq ?_;intro gd K hgd hK
    try simp (disch:=first|omega|assumption|rfl) only[go_sem,h0,h2,h4,h20,h24]
    refine Fn.mono (zhv (p:=p+s) (q:=q) (r:=q+t) (N:=N) (A:=A++X1) (X:=X2) (Y:=Y1) (B:=Y2++B) (D:=D) (by rw[hDe,←hX12,←hY12];simp only[List.append_assoc]) hN (by rw[List.length_append];omega) (by rw[List.length_append];omega) (by rw[List.length_append];omega) hcc.1 hcc.2 hLv hlen) ?_
    rintro _ w1 ⟨hL1,hK1⟩
    try simp only[go_sem]
    refine hK _ _ ?_;clear hK hgd;clear K;try clear gd
    refine⟨rfl,rfl,(vq1 h0),(vq1 h1),(vq1 h3),(vq1 h4),(vq1 h18),(vq1 h20),(vq1 h24),?_,(Ext.keep hEv).trans hK1⟩
    simpa only[List.append_assoc] using hL1
   ·intro hcc
    simp only[decide_eq_false_iff_not]at hcc
    repeat refine c_r ?_
    refine⟨rfl,rfl,h0,h1,h3,h4,h18,h20,h24,?_,Ext.keep hEv⟩
    have:D=A++X1++Y1++X2++Y2++B:=by
     rw[hDe,←hX12,←hY12]
     by_cases hz:X2=[]
     ·rw[hz];simp
     ·have:Y1=[]:=Classical.byContradiction fun hy=>hcc ⟨hz,hy⟩
      rw[this];simp
    rw[←this];exact hLv
  clear h0 h1 h2 h3 h4 h18 h20 h24 h185 hLv hEv
  rintro _ σ3 _ v3 ⟨rfl,rfl,h0,h1,h3,h4,h18,h20,h24,hL3,hK3⟩
  have hE3:Ext w0 v3:=Keep.to_ext hE rfl (fun i hi=>by omega) hK3
  have hL3l:(A++X1++Y1++X2++Y2++B).length=N:=by
   have e1:=congrArg List.length hX12
   have e2:=congrArg List.length hY12
   simp only[List.length_append]at e1 e2 ⊢
   omega
  -- the front half
  repeat refine c_r ?_
  refine zaA (Q:=fun e σ' ds' v'=>e= .normal∧ds'=[]∧v'=v3∧σ' 0= .slice (some ⟨b,0,Option.none⟩) N cap∧σ' 1=vi p∧σ' 3=vi r∧σ' 4= .func (.func g) #[] cb.toArray∧σ' 18=vi (p+h:Nat)∧σ' 20=vi (p+s:Nat)∧σ' 24=vi (q+t:Nat)∧σ' 199= .bool (decide (X1≠ []∧Y1≠ []))) ?_ ?_
  ·refine rq ?_;intro gd K hgd hK
   have hg3:∀n σ b,zap gd n σ (some (3,b))=zah (ev n σ (.tmp 195)) b:=(fun n σ b=>by rw[zab,show gd 3=some 195 from(by rw[hgd];rfl)];rfl)
   by_cases b1:(p:Int)<((p+s:Nat):Int)
   ·have n1:X1≠ []:=List.length_pos_iff.1 (by omega)
    by_cases b2:((p+s:Nat):Int)<((p+h:Nat):Int)
    ·have n2:Y1≠ []:=List.length_pos_iff.1 (by omega)
     try simp (disch:=first|omega|assumption|rfl) only[go_sem,h1,h20,h18,decide_eq_true b1,decide_eq_true b2,↓hg3]
     refine hK _ _ ?_;clear hK hgd;clear K;try clear gd
     refine⟨rfl,rfl,rfl,(vq1 h0),(vq1 h1),(vq1 h3),(vq1 h4),(vq1 h18),(vq1 h20),(vq1 h24),?_⟩
     rw[show decide (X1≠ []∧Y1≠ [])=true from decide_eq_true ⟨n1,n2⟩]
     simp only[go_sem]
    ·have n2:Y1=[]:=List.length_eq_zero_iff.1 (by omega)
     try simp (disch:=first|omega|assumption|rfl) only[go_sem,h1,h20,h18,decide_eq_true b1,decide_eq_false b2,↓hg3]
     refine hK _ _ ?_;clear hK hgd;clear K;try clear gd
     refine⟨rfl,rfl,rfl,(vq1 h0),(vq1 h1),(vq1 h3),(vq1 h4),(vq1 h18),(vq1 h20),(vq1 h24),?_⟩
     rw[show decide (X1≠ []∧Y1≠ [])=false from decide_eq_false (fun hx=>hx.2 n2)]
     simp only[go_sem]
   ·have n1:X1=[]:=List.length_eq_zero_iff.1 (by omega)
    try simp (disch:=first|omega|assumption|rfl) only[go_sem,h1,h20,h18,decide_eq_false b1,↓hg3]
    refine hK _ _ ?_;clear hK hgd;clear K;try clear gd
    refine⟨rfl,rfl,rfl,(vq1 h0),(vq1 h1),(vq1 h3),(vq1 h4),(vq1 h18),(vq1 h20),(vq1 h24),?_⟩
    rw[show decide (X1≠ []∧Y1≠ [])=false from decide_eq_false (fun hx=>hx.1 n1)]
    simp only[go_sem]
  clear h0 h1 h3 h4 h18 h20 h24
  rintro _ σ4 _ v4 ⟨rfl,rfl,hv4,h0,h1,h3,h4,h18,h20,h24,h199⟩
  rw[hv4]
  clear hv4 v4
  repeat refine c_r ?_
  refine zaA (Q:=fun e σ' ds' v'=>e= .normal∧ds'=[]∧σ' 0= .slice (some ⟨b,0,Option.none⟩) N cap∧σ' 3=vi r∧σ' 4= .func (.func g) #[] cb.toArray∧σ' 18=vi (p+h:Nat)∧σ' 24=vi (q+t:Nat)∧
   ∃Z1,Z1.Perm (X1++Y1)∧Z1.Pairwise lt∧Lies enc v' b cap (A++Z1++X2++Y2++B)∧Keep (fun i=>i=b) v3 v') ?_ ?_
  ·refine zaL (by simp only[go_sem,h199];rfl) ?_ ?_
   ·intro hcc
    simp only[decide_eq_true_eq]at hcc
    repeat refine c_r ?_
    refine rq ?_;intro gd K hgd hK
    try simp (disch:=first|omega|assumption|rfl) only[go_sem,h0,h1,h18,h4,h20]
    refine Fn.mono (ih v3 _ A X1 Y1 (X2++Y2++B) p (p+s) (p+h) N (by omega) (by simp only[List.append_assoc]) hL3l hp (by omega) (by omega) hcc.1 hcc.2 hUX1 hUY1 hX.1 hY.1 ho1 hL3 hlen hE3) ?_
    rintro _ w1 ⟨⟨Z1,z1,z2,z3⟩,hK1⟩
    try simp only[go_sem]
    refine hK _ _ ?_;clear hK hgd;clear K;try clear gd
    refine⟨rfl,rfl,(vq1 h0),(vq1 h3),(vq1 h4),(vq1 h18),(vq1 h24),Z1,z1,z2,?_,hK1⟩
    simpa only[List.append_assoc] using z3
   ·intro hcc
    simp only[decide_eq_false_iff_not]at hcc
    repeat refine c_r ?_
    refine⟨rfl,rfl,h0,h3,h4,h18,h24,X1++Y1,List.Perm.refl _,?_,by simpa only[List.append_assoc] using hL3,Keep.refl _ _⟩
    by_cases hz:X1=[]
    ·rw[hz];exact hY.1
    ·have:Y1=[]:=Classical.byContradiction fun hy=>hcc ⟨hz,hy⟩
     rw[this,List.append_nil];exact hX.1
  clear h0 h1 h3 h4 h18 h20 h24 h199 hL3
  rintro _ σ5 _ v5 ⟨rfl,rfl,h0,h3,h4,h18,h24,Z1,zp1,zs1,hL5,hK5⟩
  have hE5:Ext w0 v5:=Keep.to_ext hE3 rfl (fun i hi=>by omega) hK5
  have lZ1:Z1.length=h:=by rw[zp1.length_eq,List.length_append];omega
  have hL5l:(A++Z1++X2++Y2++B).length=N:=by
   have e1:=congrArg List.length hX12
   have e2:=congrArg List.length hY12
   simp only[List.length_append]at e1 e2 ⊢
   omega
  have hXY:∀Z2:List α,Z2.Perm (X2++Y2)→Z2.Pairwise lt→(Z1++Z2).Perm (X++Y)∧(Z1++Z2).Pairwise lt:=fun Z2 zp2 zs2=>by
   have:=zfx (by rw[List.pairwise_append];exact hX) (by rw[List.pairwise_append];exact hY) c1 c2 zp1 zp2 zs1 zs2
   rw[hX12,hY12]at this
   exact⟨this.2,this.1⟩
  -- the back half
  repeat refine c_r ?_
  refine zaA (Q:=fun e σ' ds' v'=>e= .normal∧ds'=[]∧v'=v5∧σ' 0= .slice (some ⟨b,0,Option.none⟩) N cap∧σ' 3=vi r∧σ' 4= .func (.func g) #[] cb.toArray∧σ' 18=vi (p+h:Nat)∧σ' 24=vi (q+t:Nat)∧σ' 213= .bool (decide (X2≠ []∧Y2≠ []))) ?_ ?_
  ·refine rq ?_;intro gd K hgd hK
   have hg3:∀n σ b,zap gd n σ (some (3,b))=zah (ev n σ (.tmp 209)) b:=(fun n σ b=>by rw[zab,show gd 3=some 209 from(by rw[hgd];rfl)];rfl)
   by_cases b1:((p+h:Nat):Int)<((q+t:Nat):Int)
   ·have n1:X2≠ []:=List.length_pos_iff.1 (by omega)
    by_cases b2:((q+t:Nat):Int)<(r:Int)
    ·have n2:Y2≠ []:=List.length_pos_iff.1 (by omega)
     try simp (disch:=first|omega|assumption|rfl) only[go_sem,h18,h24,h3,decide_eq_true b1,decide_eq_true b2,↓hg3]
     refine hK _ _ ?_;clear hK hgd;clear K;try clear gd
     refine⟨rfl,rfl,rfl,(vq1 h0),(vq1 h3),(vq1 h4),(vq1 h18),(vq1 h24),?_⟩
     rw[show decide (X2≠ []∧Y2≠ [])=true from decide_eq_true ⟨n1,n2⟩]
     simp only[go_sem]
    ·have n2:Y2=[]:=List.length_eq_zero_iff.1 (by omega)
     try simp (disch:=first|omega|assumption|rfl) only[go_sem,h18,h24,h3,decide_eq_true b1,decide_eq_false b2,↓hg3]
     refine hK _ _ ?_;clear hK hgd;clear K;try clear gd
     refine⟨rfl,rfl,rfl,(vq1 h0),(vq1 h3),(vq1 h4),(vq1 h18),(vq1 h24),?_⟩
     rw[show decide (X2≠ []∧Y2≠ [])=false from decide_eq_false (fun hx=>hx.2 n2)]
     simp only[go_sem]
   ·have n1:X2=[]:=List.length_eq_zero_iff.1 (by omega)
    try simp (disch:=first|omega|assumption|rfl) only[go_sem,h18,h24,h3,decide_eq_false b1,↓hg3]
    refine hK _ _ ?_;clear hK hgd;clear K;try clear gd
    refine⟨rfl,rfl,rfl,(vq1 h0),(vq1 h3),(vq1 h4),(vq1 h18),(vq1 h24),?_⟩
    rw[show decide (X2≠ []∧Y2≠ [])=false from decide_eq_false (fun hx=>hx.1 n1)]
    simp only[go_sem]
  clear h0 h3 h4 h18 h24
  rintro _ σ6 _ v6 ⟨rfl,rfl,hv6,h0,h3,h4,h18,h24,h213⟩
  rw[hv6]
  clear hv6 v6
  repeat refine c_r ?_
  refine zaL (by simp only[go_sem,h213];rfl) ?_ ?_
  ·intro hcc
   simp only[decide_eq_true_eq]at hcc
   repeat refine c_r ?_
   refine rq ?_;intro gd K hgd hK
   try simp (disch:=first|omega|assumption|rfl) only[go_sem,h0,h3,h18,h4,h24]
   refine Fn.mono (ih v5 _ (A++Z1) X2 Y2 B (p+h) (q+t) r N (by omega) rfl hL5l (by rw[List.length_append];omega) (by omega) (by omega) hcc.1 hcc.2 hUX2 hUY2 hX.2.1 hY.2.1 ho2 hL5 hlen hE5) ?_
   rintro _ w1 ⟨⟨Z2,z1,z2,z3⟩,hK1⟩
   try simp only[go_sem]
   refine hK _ _ ?_;clear hK hgd;clear K;try clear gd
   repeat refine c_r ?_
   refine zaw (by simp) rfl ⟨⟨Z1++Z2,(hXY Z2 z1 z2).1,(hXY Z2 z1 z2).2,?_⟩,(hK3.trans hK5).trans hK1⟩
   simpa only[List.append_assoc] using z3
  ·intro hcc
   simp only[decide_eq_false_iff_not]at hcc
   repeat refine c_r ?_
   have hs2:(X2++Y2).Pairwise lt:=by
    by_cases hz:X2=[]
    ·rw[hz];exact hY.2.1
    ·have:Y2=[]:=Classical.byContradiction fun hy=>hcc ⟨hz,hy⟩
     rw[this,List.append_nil];exact hX.2.1
   obtain⟨z1,z2⟩:=hXY (X2++Y2) (List.Perm.refl _) hs2
   refine zaw (by simp) rfl ⟨⟨Z1++(X2++Y2),z1,z2,?_⟩,hK3.trans hK5⟩
   simpa only[List.append_assoc] using hL5
end
end Go.Proofs.YtanmnkbccfcagaaGreatDoor.S_rec
namespace Go.Proofs.YtanmnkbccfcagaaGreatDoor
open Go
section
variable {α : Type} {lt older : α → α → Prop}
def Rem(s:Nat):List (List α)→Prop
 | []=>True
 | [Z]=>Z.length≤s
 |L::M::Rs=>L.length=s∧Rem s (M::Rs)
theorem zeU{s:Nat}:∀{Ls:List (List α)},Rem s Ls→(∀L∈Ls,L.Pairwise lt)→Ls.flatten.length≤s→Ls.flatten.Pairwise lt
 | [],_,_,_=>List.Pairwise.nil
 | [Z],_,h,_=>by simpa using h Z (by simp)
 |L::M::Rs,hr,h,hl=>by
  have h1:=hr.1
  rw[List.flatten_cons,List.length_append]at hl
  have:(M::Rs).flatten=[]:=List.length_eq_zero_iff.1 (by omega)
  rw[List.flatten_cons,this,List.append_nil]
  exact h L (by simp)
theorem rem_two{s:Nat}(hs:0<s):∀{Ls:List (List α)},Rem s Ls→2*s≤Ls.flatten.length→∃L1 L2 Rs,Ls=L1::L2::Rs∧L1.length=s∧L2.length=s∧Rem s Rs
 | [],_,h=>by simp at h;omega
 | [Z],hr,h=>by
  have:Z.length≤s:=hr
  simp at h;omega
 | [L,M],hr,h=>by
  have h1:L.length=s:=hr.1
  have h2:M.length≤s:=hr.2
  simp at h
  exact⟨L,M,[],rfl,h1,by omega,trivial⟩
 |L::M::K::Rs,hr,h=>⟨L,M,K::Rs,rfl,hr.1,hr.2.1,hr.2.2⟩
theorem rem_one{s:Nat}:∀{Ls:List (List α)},Rem s Ls→s<Ls.flatten.length→Ls.flatten.length<2*s→∃L1 L2,Ls=[L1,L2]∧L1.length=s∧L2≠ []
 | [],_,h,_=>by simp at h
 | [Z],hr,h,_=>by
  have:Z.length≤s:=hr
  simp at h;omega
 | [L,M],hr,h,_=>by
  have h1:L.length=s:=hr.1
  refine⟨L,M,rfl,h1,fun e=>?_⟩
  subst e
  simp at h;omega
 |L::M::K::Rs,hr,_,h=>by
  have h1:=hr.1
  have h2:=hr.2.1
  simp at h;omega
theorem zer{s:Nat}{Z:List α}(hZ:Z.length≤s):∀{Q:List (List α)},(∀L∈Q,L.length=s)→Rem s (Q++ [Z])
 | [],_=>hZ
 | [L],h=>⟨h L (by simp),hZ⟩
 |L::M::Q,h=>⟨h L (by simp),zer hZ (Q:=M::Q) (fun K hK=>h K (List.mem_cons_of_mem _ hK))⟩
def OldC(older:α→α→Prop)(Ls:List (List α)):Prop:=Ls.Pairwise fun L M=>∀x∈L,∀y∈M,older x y
theorem OldC.merge{Q Rs:List (List α)}{L1 L2 Z:List α}(h:OldC older (Q++L1::L2::Rs))(hp:Z.Perm (L1++L2)):OldC older (Q++Z::Rs)∧∀x∈L1,∀y∈L2,older x y:=by
 unfold OldC at*
 rw[List.pairwise_append,List.pairwise_cons,List.pairwise_cons]at h
 obtain⟨h1,⟨h2,h3,h4⟩,h5⟩:=h
 refine⟨?_,h2 L2 (by simp)⟩
 rw[List.pairwise_append,List.pairwise_cons]
 refine⟨h1,⟨fun M hM x hx y hy=>?_,h4⟩,fun L hL M hM x hx y hy=>?_⟩
 ·rcases List.mem_append.1 (hp.mem_iff.1 hx) with hx|hx
  ·exact h2 M (List.mem_cons_of_mem _ hM) x hx y hy
  ·exact h3 M hM x hx y hy
 ·rcases List.mem_cons.1 hM with rfl|hM
  ·rcases List.mem_append.1 (hp.mem_iff.1 hy) with hy|hy
   ·exact h5 L hL L1 (by simp) x hx y hy
   ·exact h5 L hL L2 (by simp) x hx y hy
  ·exact h5 L hL M (by simp[hM]) x hx y hy
theorem OldC.perm{Q Rs:List (List α)}{X Z:List α}(h:OldC older (Q++X::Rs))(hp:Z.Perm X):OldC older (Q++Z::Rs):=by
 unfold OldC at*
 rw[List.pairwise_append,List.pairwise_cons]at h ⊢
 obtain⟨h1,⟨h2,h4⟩,h5⟩:=h
 refine⟨h1,⟨fun M hM x hx y hy=>h2 M hM x (hp.mem_iff.1 hx) y hy,h4⟩,fun L hL M hM x hx y hy=>?_⟩
 rcases List.mem_cons.1 hM with rfl|hM
 ·exact h5 L hL X (by simp) x hx y (hp.mem_iff.1 hy)
 ·exact h5 L hL M (by simp[hM]) x hx y hy
theorem OldC.split{Q:List (List α)}{X R:List α}(h:OldC older (Q++ [X++R]))(hx:(X++R).Pairwise older):OldC older (Q++ [X,R]):=by
 unfold OldC at*
 rw[List.pairwise_append]at h hx ⊢
 refine⟨h.1,List.pairwise_cons.2 ⟨fun M hM x hx' y hy=>?_,List.pairwise_singleton _ _⟩,fun L hL M hM x hx' y hy=>?_⟩
 ·rw[List.mem_singleton.1 hM]at hy;exact hx.2.2 x hx' y hy
 ·rcases List.mem_cons.1 hM with rfl|hM
  ·exact h.2.2 L hL _ (List.mem_singleton.2 rfl) x hx' y (List.mem_append_left _ hy)
  ·rw[List.mem_singleton.1 hM]at hy
   exact h.2.2 L hL _ (List.mem_singleton.2 rfl) x hx' y (List.mem_append_right _ hy)
theorem OldC.join{Q Rs:List (List α)}(h:OldC older (Q++Rs)):OldC older (Q++ [Rs.flatten]):=by
 unfold OldC at*
 rw[List.pairwise_append]at h ⊢
 refine⟨h.1,List.pairwise_singleton _ _,fun L hL M hM x hx y hy=>?_⟩
 rw[List.mem_singleton.1 hM]at hy
 obtain⟨K,hK,hy⟩:=List.mem_flatten.1 hy
 exact h.2.2 L hL K hK x hx y hy
end
end Go.Proofs.YtanmnkbccfcagaaGreatDoor
namespace Go.Proofs.YtanmnkbccfcagaaGreatDoor.S_rec
open Go Go.Proofs.YtanmnkbccfcagaaGreatDoor
set_option maxRecDepth 10000
section
variable {α : Type} {enc : α → List Value}
theorem zhn{w0 w:World}{b cap:Nat}{U:α→Prop}{cf:α→α→Int}{lt older:α→α→Prop}{g:FuncId}{cb:List Value}(hc:Cmp w0 enc U cf g cb)(ho:zfp cf lt older)(hb:w0.heap.size≤b)
  {D:List α} {N:Nat} (hN:D.length=N) (hU:∀x∈D,U x) (hOD:D.Pairwise older) (hD:Lies enc w b cap D) (hlen:N≤100000000000) (hE:Ext w0 w):
  Fn Tryz.prog 230 #[zbX b N cap,vi N,cmpV g cb] w (fun _ w'=>(∃Z,Z.Perm D∧Z.Pairwise lt∧Lies enc w' b cap Z)∧Keep (fun i=>i=b) w w'):=by
 unfold zbX cmpV
 refine enter Tryz.func230 Tryz.ntmps230 rfl rfl ?_
 repeat refine c_r ?_
 refine rg0 ?_
 repeat refine c_r ?_
 refine rg0 ?_
 repeat refine c_r ?_
 refine zas (fun m σ ds v=>ds=[]∧∃(P:List (List α)) (R:List α),R.length=m∧(∀L∈P,L.length=20)∧(∀L∈P,L.Pairwise lt)∧OldC older (P++ [R])∧R.Pairwise older∧(P.flatten++R).Perm D∧σ 6=vi 20∧σ 7=vi P.flatten.length∧σ 8=vi (P.flatten.length+20:Nat)∧σ 0= .slice (some ⟨b,0,Option.none⟩) N cap∧σ 1=vi N∧σ 2= .func (.func g) #[] cb.toArray∧
  Lies enc v b cap (P.flatten++R)∧Keep (fun i=>i=b) w v) D.length ?_ ?_
 ·refine⟨rfl,[],D,rfl,fun L h=>(by cases h),fun L h=>(by cases h),List.pairwise_singleton _ _,hOD,List.Perm.refl _,vq0,?_,?_,vq0,vq0,vq0,hD,Keep.refl _ _⟩
  ·simp only[go_sem];rfl
  ·simp only[go_sem];rfl
 rintro m σ ds v ⟨rfl,P,R,hm,hP20,hPs,hOC,hRo,hperm,h6,h7,h8,h0,h1,h2,hL,hK⟩
 have hE0:Ext w0 v:=Keep.to_ext hE rfl (fun i hi=>by omega) hK
 have hl:=hperm.length_eq
 rw[List.length_append,hN]at hl
 have hUR:∀x∈R,U x:=fun x hx=>hU x (hperm.mem_iff.1 (List.mem_append_right _ hx))
 repeat refine c_r ?_
 refine rg2 h8 h1 ?_
 repeat refine c_r ?_
 refine wc0 ?_ ?_
 ·intro hle
  simp only[decide_eq_true_eq]at hle
  have hR20:20≤R.length:=by omega
  obtain⟨X,hX⟩:∃X,R.take 20=X:=⟨_,rfl⟩
  obtain⟨R',hR'⟩:∃R',R.drop 20=R':=⟨_,rfl⟩
  have hXR:X++R'=R:=by rw[←hX,←hR'];exact List.take_append_drop _ _
  have hXl:X.length=20:=by rw[←hX];simp;omega
  rw[←hXR]at hRo hOC
  have hOC2:=hOC.split hRo
  rw[List.pairwise_append]at hRo
  repeat refine c_r ?_
  refine rq ?_;intro gd K hgd hK
  try simp (disch:=first|omega|assumption|rfl) only[go_sem,h0,h7,h8,h2]
  refine Fn.mono (zbT hc ho (D:=P.flatten++R) (A:=P.flatten) (X:=X) (B:=R') (p:=P.flatten.length) (q:=P.flatten.length+20) (N:=N) (by rw[←hXR,List.append_assoc]) (by rw[List.length_append];omega) rfl (by omega) (fun x hx=>hUR x (by rw[←hXR];exact List.mem_append_left _ hx)) hRo.1 hL (by omega) hE0 hb) ?_
  rintro _ w1 ⟨⟨Z,z1,z2,z3⟩,hK1⟩
  try simp only[go_sem]
  refine hK _ _ ?_;clear hK hgd;clear K;try clear gd
  have hzl:=z1.length_eq
  have hfl:(P++ [Z]).flatten.length=P.flatten.length+20:=by simp;omega
  repeat refine c_r ?_
  refine rg1 h8 ?_
  repeat refine c_r ?_
  refine rg2 h8 h6 ?_
  repeat refine c_r ?_
  refine⟨R'.length,by rw[←hR'];simp;omega,rfl,P++ [Z],R',rfl,fun L hL=>?_,fun L hL=>?_,?_,hRo.2.1,?_,(vq1 h6),(vq1 hfl),by simp only[go_sem,hfl];push_cast;rfl,(vq1 h0),(vq1 h1),(vq1 h2),?_,hK.trans hK1⟩
  ·rcases List.mem_append.1 hL with hL|hL
   ·exact hP20 L hL
   ·rw[List.mem_singleton.1 hL];omega
  ·rcases List.mem_append.1 hL with hL|hL
   ·exact hPs L hL
   ·rw[List.mem_singleton.1 hL];exact z2
  ·have:=hOC2.perm z1
   rw[List.append_assoc];exact this
  ·refine List.Perm.trans ?_ hperm
   rw[←hXR]
   have:(P++ [Z]).flatten++R'=P.flatten++(Z++R'):=by simp
   rw[this]
   exact List.Perm.append_left _ (List.Perm.append_right _ z1)
  ·have:(P++ [Z]).flatten++R'=P.flatten++Z++R':=by simp
   rw[this];exact z3
 intro hgt
 simp only[decide_eq_false_iff_not]at hgt
 have hR20:R.length<20:=by omega
 repeat refine c_r ?_
 refine rq ?_;intro gd K hgd hK
 try simp (disch:=first|omega|assumption|rfl) only[go_sem,h0,h7,h1,h2]
 refine Fn.mono (zbT hc ho (D:=P.flatten++R) (A:=P.flatten) (X:=R) (B:=[]) (p:=P.flatten.length) (q:=N) (N:=N) (by simp) (by rw[List.length_append];omega) rfl (by omega) hUR hRo hL (by omega) hE0 hb) ?_
 rintro _ w1 ⟨⟨Z,z1,z2,z3⟩,hK1⟩
 try simp only[go_sem]
 refine hK _ _ ?_;clear hK hgd;clear K;try clear gd
 have hE1:Ext w0 w1:=Keep.to_ext hE0 rfl (fun i hi=>by omega) hK1
 have hzl:=z1.length_eq
 repeat refine c_r ?_
 refine zas (fun m σ ds v=>ds=[]∧∃(s:Nat) (Ls:List (List α)),N - s=m∧0<s∧Rem s Ls∧(∀L∈Ls,L.Pairwise lt)∧OldC older Ls∧Ls.flatten.Perm D∧σ 6=vi s∧σ 0= .slice (some ⟨b,0,Option.none⟩) N cap∧σ 1=vi N∧σ 2= .func (.func g) #[] cb.toArray∧
  Lies enc v b cap Ls.flatten∧Keep (fun i=>i=b) w v) (N - 20) ?_ ?_
 ·refine⟨rfl,20,P++ [Z],rfl,by omega,zer (by omega) hP20,fun L hL=>?_,hOC.perm z1,?_,by simp only[go_sem,h6];rfl,(vq1 h0),(vq1 h1),(vq1 h2),?_,hK.trans hK1⟩
  ·rcases List.mem_append.1 hL with hL|hL
   ·exact hPs L hL
   ·rw[List.mem_singleton.1 hL];exact z2
  ·refine List.Perm.trans ?_ hperm
   have:(P++ [Z]).flatten=P.flatten++Z:=by simp
   rw[this];exact List.Perm.append_left _ z1
  ·have:(P++ [Z]).flatten=P.flatten++Z++ []:=by simp
   rw[this];exact z3
 clear h6 h7 h8 h0 h1 h2 hL hOC hperm hl z3
 rintro m1 σ ds v1 ⟨rfl,s,Ls,hms,hs0,hrem,hsorted,hOC,hperm,h6,h0,h1,h2,hL,hK2⟩
 have hE2:Ext w0 v1:=Keep.to_ext hE rfl (fun i hi=>by omega) hK2
 have hl:=hperm.length_eq
 rw[hN]at hl
 repeat refine c_r ?_
 refine rg2 h6 h1 ?_
 repeat refine c_r ?_
 refine wc0 ?_ ?_
 ·intro hlt
  simp only[decide_eq_true_eq]at hlt
  have h2s:(2:Int)*s=((2*s:Nat):Int):=by push_cast;rfl
  repeat refine c_r ?_
  refine rg2 h6 h2s ?_
  repeat refine c_r ?_
  refine zas (fun m σ ds v=>ds=[]∧∃(Q Rs:List (List α)),Rs.flatten.length=m∧(∀L∈Q,L.length=2*s)∧Rem s Rs∧(∀L∈Q++Rs,L.Pairwise lt)∧OldC older (Q++Rs)∧(Q++Rs).flatten.Perm D∧σ 6=vi s∧σ 7=vi Q.flatten.length∧σ 8=vi (Q.flatten.length+2*s:Nat)∧σ 0= .slice (some ⟨b,0,Option.none⟩) N cap∧σ 1=vi N∧σ 2= .func (.func g) #[] cb.toArray∧
   Lies enc v b cap (Q++Rs).flatten∧Keep (fun i=>i=b) w v) N ?_ ?_
  ·refine⟨rfl,[],Ls,hl,fun L h=>(by cases h),hrem,hsorted,hOC,hperm,(vq1 h6),?_,?_,(vq1 h0),(vq1 h1),(vq1 h2),hL,hK2⟩
   ·simp only[go_sem];rfl
   ·simp only[go_sem];push_cast;simp
  clear h6 h0 h1 h2 hL hrem hsorted hOC hperm
  rintro m2 σ ds v2 ⟨rfl,Q,Rs,hm2,hQl,hrem,hsorted,hOC,hperm,h6,h7,h8,h0,h1,h2,hL,hK3⟩
  have hE3:Ext w0 v2:=Keep.to_ext hE rfl (fun i hi=>by omega) hK3
  have hl3:=hperm.length_eq
  rw[hN,List.flatten_append,List.length_append]at hl3
  have hUQ:∀L∈Q++Rs,∀x∈L,U x:=fun L hL x hx=>hU x (hperm.mem_iff.1 (List.mem_flatten.2 ⟨L,hL,hx⟩))
  repeat refine c_r ?_
  refine rg2 h8 h1 ?_
  repeat refine c_r ?_
  refine wc0 ?_ ?_
  ·intro hle
   simp only[decide_eq_true_eq]at hle
   obtain⟨L1,L2,Rs',rfl,l1,l2,hrem'⟩:=rem_two hs0 hrem (by omega)
   have has:(Q.flatten.length:Int)+s=((Q.flatten.length+s:Nat):Int):=by push_cast;rfl
   have n1:L1≠ []:=List.length_pos_iff.1 (by omega)
   have n2:L2≠ []:=List.length_pos_iff.1 (by omega)
   have hold12:=(hOC.merge (List.Perm.refl (L1++L2))).2
   repeat refine c_r ?_
   refine rq ?_;intro gd K hgd hK
   try simp (disch:=first|omega|assumption|rfl) only[go_sem,h0,h7,h6,h8,h2,has]
   refine Fn.mono (zdx hc ho hb (L1.length+L2.length) v2 (Q++L1::L2::Rs').flatten Q.flatten L1 L2 Rs'.flatten Q.flatten.length (Q.flatten.length+s) (Q.flatten.length+2*s) N (Nat.le_refl _) (by simp) (by rw[List.flatten_append,List.length_append];exact hl3) rfl (by omega) (by omega) n1 n2
    (hUQ L1 (by simp)) (hUQ L2 (by simp)) (hsorted L1 (by simp)) (hsorted L2 (by simp)) hold12 hL (by omega) hE3) ?_
   rintro _ w2 ⟨⟨Z,z1,z2,z3⟩,hK4⟩
   try simp only[go_sem]
   refine hK _ _ ?_;clear hK hgd;clear K;try clear gd
   have hzl2:=z1.length_eq
   rw[List.length_append]at hzl2
   have hfl:(Q++ [Z]).flatten.length=Q.flatten.length+2*s:=by simp;omega
   repeat refine c_r ?_
   refine rg1 h8 ?_
   repeat refine c_r ?_
   refine rg3 h8 h6 h2s ?_
   repeat refine c_r ?_
   have hfr:(L1::L2::Rs').flatten.length=s+(s+Rs'.flatten.length):=by simp only[List.flatten_cons,List.length_append];omega
   refine⟨Rs'.flatten.length,by omega,rfl,Q++ [Z],Rs',rfl,fun L hL=>?_,hrem',fun L hL=>?_,?_,?_,(vq1 h6),(vq1 hfl),by simp only[go_sem,hfl];push_cast;rfl,(vq1 h0),(vq1 h1),(vq1 h2),?_,hK3.trans hK4⟩
   ·rcases List.mem_append.1 hL with hL|hL
    ·exact hQl L hL
    ·rw[List.mem_singleton.1 hL];omega
   ·rcases List.mem_append.1 hL with hL|hL
    ·rcases List.mem_append.1 hL with hL|hL
     ·exact hsorted L (by simp[hL])
     ·rw[List.mem_singleton.1 hL];exact z2
    ·exact hsorted L (by simp[hL])
   ·have:=(hOC.merge z1).1
    rw[List.append_assoc];exact this
   ·refine List.Perm.trans ?_ hperm
    have e1:(Q++ [Z]++Rs').flatten=Q.flatten++(Z++Rs'.flatten):=by simp
    have e2:(Q++L1::L2::Rs').flatten=Q.flatten++((L1++L2)++Rs'.flatten):=by simp
    rw[e1,e2]
    exact List.Perm.append_left _ (List.Perm.append_right _ z1)
   ·have e1:(Q++ [Z]++Rs').flatten=Q.flatten++Z++Rs'.flatten:=by simp
    rw[e1];exact z3
  intro hgt2
  simp only[decide_eq_false_iff_not]at hgt2
  have has:(Q.flatten.length:Int)+s=((Q.flatten.length+s:Nat):Int):=by push_cast;rfl
  repeat refine c_r ?_
  refine rg3 h7 h6 has ?_
  repeat refine c_r ?_
  refine rg1 h1 ?_
  repeat refine c_r ?_
  refine zaA (Q:=fun e σ' ds' v'=>e= .normal∧ds'=[]∧σ' 6=vi s∧σ' 0= .slice (some ⟨b,0,Option.none⟩) N cap∧σ' 1=vi N∧σ' 2= .func (.func g) #[] cb.toArray∧
   ∃Z,Z.Perm Rs.flatten∧Z.Pairwise lt∧Lies enc v' b cap (Q++ [Z]).flatten∧Keep (fun i=>i=b) w v') ?_ ?_
  ·refine wc0 ?_ ?_
   ·intro hlt2
    simp only[decide_eq_true_eq]at hlt2
    obtain⟨L1,L2,rfl,l1,n2⟩:=rem_one hrem (by omega) (by omega)
    have n1:L1≠ []:=List.length_pos_iff.1 (by omega)
    have hold12:=(hOC.merge (List.Perm.refl (L1++L2))).2
    have hfr:[L1,L2].flatten.length=s+L2.length:=by simp;omega
    repeat refine c_r ?_
    refine rq ?_;intro gd K hgd hK
    try simp (disch:=first|omega|assumption|rfl) only[go_sem,h0,h7,h1,h2]
    refine Fn.mono (zdx hc ho hb (L1.length+L2.length) v2 (Q++ [L1,L2]).flatten Q.flatten L1 L2 [] Q.flatten.length (Q.flatten.length+s) N N (Nat.le_refl _) (by simp) (by rw[List.flatten_append,List.length_append];exact hl3) rfl (by omega) (by omega) n1 n2
     (hUQ L1 (by simp)) (hUQ L2 (by simp)) (hsorted L1 (by simp)) (hsorted L2 (by simp)) hold12 hL (by omega) hE3) ?_
    rintro _ w2 ⟨⟨Z,z1,z2,z3⟩,hK4⟩
    try simp only[go_sem]
    refine hK _ _ ?_;clear hK hgd;clear K;try clear gd
    refine⟨rfl,rfl,(vq1 h6),(vq1 h0),(vq1 h1),(vq1 h2),Z,by simpa using z1,z2,?_,hK3.trans hK4⟩
    have e1:(Q++ [Z]).flatten=Q.flatten++Z++ []:=by simp
    rw[e1];exact z3
   ·intro hge2
    simp only[decide_eq_false_iff_not]at hge2
    repeat refine c_r ?_
    refine⟨rfl,rfl,(vq1 h6),(vq1 h0),(vq1 h1),(vq1 h2),Rs.flatten,List.Perm.refl _,zeU hrem (fun L hL=>hsorted L (by simp[hL])) (by omega),?_,hK3⟩
    have e1:(Q++ [Rs.flatten]).flatten=(Q++Rs).flatten:=by simp
    rw[e1];exact hL
  clear h6 h7 h8 h0 h1 h2 hL
  rintro _ σ3 _ v3 ⟨rfl,rfl,h6,h0,h1,h2,Z,zp,zs,hL,hK5⟩
  have hzl3:=zp.length_eq
  have hs2:(s:Int)*2=((2*s:Nat):Int):=by push_cast;omega
  repeat refine c_r ?_
  refine rg2 h6 hs2 ?_
  repeat refine c_r ?_
  refine⟨N - 2*s,by omega,rfl,2*s,Q++ [Z],rfl,by omega,zer (by omega) hQl,fun L hL=>?_,hOC.join.perm zp,?_,vq0,(vq1 h0),(vq1 h1),(vq1 h2),hL,hK5⟩
  ·rcases List.mem_append.1 hL with hL|hL
   ·exact hsorted L (by simp[hL])
   ·rw[List.mem_singleton.1 hL];exact zs
  ·refine List.Perm.trans ?_ hperm
   have e1:(Q++ [Z]).flatten=Q.flatten++Z:=by simp
   rw[e1,List.flatten_append]
   exact List.Perm.append_left _ zp
 intro hge
 simp only[decide_eq_false_iff_not]at hge
 repeat refine c_r ?_
 exact zaw (by simp) rfl ⟨⟨Ls.flatten,hperm,zeU hrem hsorted (by omega),hL⟩,hK2⟩
theorem zeG{w0 w:World}{b cap:Nat}{U:α→Prop}{cf:α→α→Int}{lt older:α→α→Prop}{g:FuncId}{cb:List Value}(hc:Cmp w0 enc U cf g cb)(ho:zfp cf lt older)(hb:w0.heap.size≤b)
  {D:List α} {N:Nat} (hN:D.length=N) (hU:∀x∈D,U x) (hOD:D.Pairwise older) (hD:Lies enc w b cap D) (hlen:N≤100000000000) (hE:Ext w0 w):
  Fn Tryz.prog 187 #[zbX b N cap,cmpV g cb] w (fun _ w'=>(∃Z,Z.Perm D∧Z.Pairwise lt∧Lies enc w' b cap Z)∧Keep (fun i=>i=b) w w'):=by
 have h:=zhn (w:=w) hc ho hb hN hU hOD hD hlen hE
 unfold zbX at h ⊢
 refine enter Tryz.func187 Tryz.ntmps187 rfl rfl ?_
 repeat refine c_r ?_
 refine rq ?_;intro gd K hgd hK
 try simp only[go_sem]
 refine Fn.mono h ?_
 rintro _ w1 hr
 try simp only[go_sem]
 refine hK _ _ ?_;clear hK hgd;clear K;try clear gd
 repeat refine c_r ?_
 exact zaw (by simp) rfl hr
end
end Go.Proofs.YtanmnkbccfcagaaGreatDoor.S_rec
