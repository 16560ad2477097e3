/-
  Texts of a proof, joined: HU, HW, HV, KR, KR5, KR6, D6, D7, D8, K18, E0, E1, E2, E3, Y1, E4, E5, E6, E7, B4, B5, B6, E8, B3, K24, E9, E10, F2, Y4, F3, F4, Y5, F5, E11, E12, E13, F6, F7, F8, F9, G0, G1, G2, G3.
  Conditions: none.
-/
import Derived.Test.YtanmnkbccfcagaaGreatDoorQTU06
import Derived.Test.YtanmnkbccfcagaaGreatDoorQTU03
import Derived.Test.YtanmnkbccfcagaaGreatDoorQTU04
import Derived.Test.YtanmnkbccfcagaaGreatDoorQTU02
import Derived.Test.YtanmnkbccfcagaaGreatDoorQTU01
import Derived.MapFrom
set_option linter.unusedVariables false
set_option linter.unusedSimpArgs false
set_option linter.defProp false
set_option linter.unnecessarySimpa false
set_option maxHeartbeats 8000000
namespace Go.Proofs.YtanmnkbccfcagaaGreatDoor
open Go
set_option maxRecDepth 10000
def ze5(C:List RecL)(m:Int)(o:Nm)(x:Nat×Bool):List Lab:=match C[x.1]? with
 |some r=>((if x.2=true then zcm r.owner o else [])::(if r.ttl=m then [] else [numT r.ttl]))++ [[73,78],tyT r.dat.ty,zcQ hexU r.dat]
 |Option.none=>[]
def zgH(C:List RecL)(m:Int)(o:Nm)(x:Nat×Bool):Lab:=zby [32] (ze5 C m o x)++ [10]
def ze7(m:Int)(o:Nm):Lab:=(zby [32] [[36,79,82,73,71,73,78],zbx o]++ [10])++(zby [32] [[36,84,84,76],numT m]++ [10])
def zgS(R:List RecL)(o:Nm):Lab:=ze7 (zck ((zba R).map RecL.ttl)) o++(zbi (zba R)).flatMap (zgH (zba R) (zck ((zba R).map RecL.ttl)) o)
theorem zgz{n o:Nm}(hn:NmT n):(zcm n o).length≤5000000:=by
 have h1:=zbE hn.1 hn.2
 unfold zcm
 split
 ·simp
 ·split
  ·have h2:=za7 [46] ((n.take (n.length - o.length)).map zaZ)
   have h3:zar ((n.take (n.length - o.length)).map zaZ)≤4000*(n.take (n.length - o.length)).length:=zbH fun l hl=>by
    have h1:=zbo l
    have h2:=hn.1 l (List.mem_of_mem_take hl)
    omega
   have h4:(n.take (n.length - o.length)).length≤1000:=by rw[List.length_take];have:=hn.2;omega
   have h5:4000*(n.take (n.length - o.length)).length≤4000*1000:=Nat.mul_le_mul_left _ h4
   rw[show ([46]:Lab).length=1 from rfl,List.length_map]at h2
   omega
  ·exact h1
theorem zhk{d:DatL}(h:DatT d):(zcQ hexU d).length≤300000000:=by
 obtain⟨g1,g2⟩:=zcx (fx:=hexU) (fun u hu=>by have:=zcF 3 u (by simpa using hu);omega) h
 have:=za7 [32] (zbD hexU d)
 unfold zcQ
 rw[show ([32]:Lab).length=1 from rfl]at this
 omega
theorem zf9{n:Int}(h:n≤4294967295):(numT n).length≤20:=zga h
theorem ze4{C:List RecL}{m:Int}{o:Nm}{x:Nat×Bool}(hT:∀r∈C,RecT r):(ze5 C m o x).length≤5∧zar (ze5 C m o x)≤310000000:=by
 unfold ze5
 split
 ·rename_i r hr
  have hrT:=hT r (List.mem_of_getElem? hr)
  have a1:=zgz (o:=o) (n:=r.owner) ⟨hrT.ow.1,hrT.ow.2⟩
  have a2:=zf9 hrT.tl.2
  have a3:=zfv hrT.ty.1 hrT.ty.2
  have a4:=zhk hrT.dat
  have a5:(if x.2=true then zcm r.owner o else([]:Lab)).length≤5000000:=by
   split
   ·exact a1
   ·simp
  by_cases hm:r.ttl=m
  ·rw[if_pos hm]
   refine⟨by simp,?_⟩
   simp only[zar,List.map_cons,List.map_nil,List.sum_cons,List.sum_nil,List.length_cons,List.length_nil,List.cons_append,List.nil_append]
   omega
  ·rw[if_neg hm]
   refine⟨by simp,?_⟩
   simp only[zar,List.map_cons,List.map_nil,List.sum_cons,List.sum_nil,List.length_cons,List.length_nil,List.cons_append,List.nil_append]
   omega
 ·exact⟨by simp,by simp[zar]⟩
theorem zhR{C:List RecL}{m:Int}{o:Nm}{x:Nat×Bool}(hT:∀r∈C,RecT r):(zgH C m o x).length≤400000000:=by
 obtain⟨h1,h2⟩:=ze4 (m:=m) (o:=o) (x:=x) hT
 have h3:=za7 [32] (ze5 C m o x)
 unfold zgH
 rw[show ([32]:Lab).length=1 from rfl]at h3
 rw[List.length_append,show([10]:Lab).length=1 from rfl]
 omega
theorem zcX{C:List RecL}{m:Int}{o:Nm}(hT:∀r∈C,RecT r):∀l:List (Nat×Bool),(l.flatMap (zgH C m o)).length≤400000000*l.length
 | []=>Nat.zero_le _
 |x::l=>by
  have h1:=zcX (m:=m) (o:=o) hT l
  have h2:=zhR (m:=m) (o:=o) (x:=x) hT
  rw[List.flatMap_cons,List.length_append,List.length_cons]
  omega
theorem zh2{m:Int}{o:Nm}(hm:m≤4294967295)(ho:NmT o):(ze7 m o).length≤6000000:=by
 have a1:=zbE ho.1 ho.2
 have a2:=zf9 hm
 have a3:=za7 [32] [[36,79,82,73,71,73,78],zbx o]
 have a4:=za7 [32] [[36,84,84,76],numT m]
 simp only[zar,List.map_cons,List.map_nil,List.sum_cons,List.sum_nil,List.length_cons,List.length_nil]at a3 a4
 unfold ze7
 simp only[List.length_append,List.length_cons,List.length_nil]
 omega
theorem canonT{R:List RecL}(hT:∀r∈R,RecT r):∀r∈zba R,RecT r:=
 zfc (Q:=RecT) (cf:=zau) (jn:=minT) (p:=fun r=>r) (fun a b ha hb _=>⟨ha.ow,by have h1:=ha.tl;have h2:=hb.tl;unfold minT;simp only;omega,ha.ty,ha.dat⟩) R [] hT (fun x h=>by cases h)
theorem zfV{w:World}(hW:WY w){v ov:Value}{R:List RecL}{o:Nm}(hR:Rows 7 (RecAt w) w v R)(hT:∀r∈R,RecT r)(hok:∀r∈R,zcw r)(hl:R.length≤100)(ho:Row w ov (o.map vs))(hoT:NmT o):
  Fn Tryz.prog 17 #[v,ov] w (fun u w'=>u=vs (zgS R o)∧Ext w w'):=by
 unfold zgS
 have hCT:=canonT hT
 have hCl:=zg3 R
 obtain⟨oa,oc,hov,_⟩:=id ho
 obtain⟨on,hon⟩:∃on,(o.map vs).length=on:=⟨_,rfl⟩
 rw[hon]at hov
 subst hov
 refine enter Tryz.func17 Tryz.ntmps17 rfl rfl ?_
 refine go trivial ?_
 refine zaI ?_
 intro w1 hE1 hs1 hA1
 refine go trivial ?_
 refine rc trivial (Canon_ok w w1 hE1 (hR.ext hE1) hok (by omega)) ?_
 rintro cv w2 ⟨hC,hE2,_⟩
 obtain⟨C,hCC⟩:∃C,zba R=C:=⟨_,rfl⟩
 rw[hCC]at hC hCT hCl ⊢
 have hE12:=hE1.trans hE2
 have hC2:Rows 7 (RecAt w2) w2 cv C:=hC.to fun cs a h=>h.ext hE12
 refine rgo trivial ?_
 refine rq ?_;intro gd K hgd hK
 try simp only[go_sem]
 refine Fn.mono (usual_ok hC2 (by omega) fun r hr=>(hCT r hr).tl) ?_
 rintro _ w3 ⟨rfl,hE3⟩
 have hm0:0≤zck (C.map RecL.ttl)∧zck (C.map RecL.ttl)≤4294967295:=by
  cases hcc:C with
  |nil=>exact⟨Int.le_refl _,by decide⟩
  |cons r l=>
   have:=zhi (ts:=C.map RecL.ttl) (by rw[hcc];simp)
   obtain⟨q,hq,hqe⟩:=List.mem_map.1 this
   rw[←hcc,←hqe]
   exact(hCT q hq).tl
 obtain⟨u,hu⟩:∃u:Nat,zck (C.map RecL.ttl)=(u:Int):=⟨(zck (C.map RecL.ttl)).toNat,by omega⟩
 rw[hu]at hm0 ⊢
 have hul:u≤4294967295:=by omega
 have hE13:=hE12.trans hE3
 have hR3:Rows 7 (RecAt w3) w3 cv C:=(hC2.ext hE3).to fun cs a h=>h.ext hE3
 obtain⟨ca,cc,rfl,_,_⟩:=hR3.open
 try simp only[go_sem]
 refine za9 (P:=Tryz.prog) rfl rfl rfl (zak w3 _) (by simp) (by simp) ?_
 intro wA hsA hbA hkA
 rw[zat]at hsA
 have hEA:Ext w3 wA:=Keep.to_ext (Ext.alloc w3 _) rfl (fun b hb=>by omega) hkA
 try simp only[go_sem]
 refine hK _ _ ?_;clear hK hgd;clear K;try clear gd
 refine go trivial ?_
 refine zaI ?_
 intro wB hEB hsB hbB
 refine rq ?_;intro gd K hgd hK
 try simp only[go_sem]
 refine za9 (P:=Tryz.prog) rfl rfl rfl (zak wB _) (by simp) (by simp) ?_
 intro wC hsC hbC hkC
 rw[zat]at hsC
 have hEC:Ext wB wC:=Keep.to_ext (Ext.alloc wB _) rfl (fun b hb=>by omega) hkC
 try simp only[go_sem]
 refine hK _ _ ?_;clear hK hgd;clear K;try clear gd
 refine go trivial ?_
 refine rq ?_;intro gd K hgd hK
 try simp only[go_sem]
 refine za9 (P:=Tryz.prog) rfl rfl rfl (zak wC _) (by simp) (by simp) ?_
 intro w4 hs4 hbD hkD
 rw[zat]at hs4
 have hED:Ext wC w4:=Keep.to_ext (Ext.alloc wC _) rfl (fun b hb=>by omega) hkD
 try simp only[go_sem]
 refine hK _ _ ?_;clear hK hgd;clear K;try clear gd
 refine go trivial ?_
 rw[hsA]at hsB hbB hbC
 rw[hsB]at hsC hbC
 rw[hsC]at hs4 hbD
 have hE34:Ext w3 w4:=((hEA.trans hEB).trans hEC).trans hED
 have hB5:=Ext.at ((hEB.trans hEC).trans hED) hbA
 have hB6:=Ext.at (hEC.trans hED) hbB
 have hB7:=Ext.at hED hbC
 obtain⟨S,hS⟩:∃S,w3.heap.size=S:=⟨_,rfl⟩
 obtain⟨B,hB⟩:∃B,w4.heap.size=B:=⟨_,rfl⟩
 obtain⟨D0,hD0⟩:∃D0,w.heap.size=D0:=⟨_,rfl⟩
 have hz1:=hE1.size
 have hz2:=hE2.size
 have hz3:=hE3.size
 have hA4:w4.heap[D0]? =_:=Ext.at hE34 (Ext.at hE3 (Ext.at hE2 (hD0▸hA1)))
 have cc4:∀{z:World},Keep (fun i=>i=S+1∨B≤i) w4 z→zaf z (some ⟨D0,0,Option.none⟩)=some (.slice oa on oc)∧zaf z (some ⟨S,0,Option.none⟩)=some (v32 u)∧zaf z (some ⟨S+2,0,Option.none⟩)=some (.func (.func 56) #[] #[.pointer (some ⟨S+1,0,Option.none⟩)])∧zaf z (some ⟨S+3,0,Option.none⟩)=some (.func (.func 59) #[] #[]):=fun {z} hk=>
  ⟨zac ((hk.block _ (by omega) (by omega)).trans hA4) rfl,zac ((hk.block _ (by omega) (by omega)).trans (hS▸hB5)) rfl,zac ((hk.block _ (by omega) (by omega)).trans (hS▸hB7)) rfl,zac ((hk.block _ (by omega) (by omega)).trans (hS▸hbD)) rfl⟩
 have hbld4:Bld B w4 (S+1) []:=⟨⟨_,_,.inl rfl,hS▸hB6,Own.nil _ _ _⟩⟩
 have hE4':Ext w w4:=hE13.trans hE34
 have hW4:=hW.ext hE4'
 have ho4:=ho.ext hE4'
 have a1:=zbE hoT.1 hoT.2
 have a2:=zbs 19 u (by omega)
 have g1:wA.heap.size=S+1:=by omega
 have g2:wB.heap.size=S+2:=by omega
 have g3:wC.heap.size=S+3:=by omega
 simp only[g1,g2,g3,hS,hD0]
 -- the first two rows
 obtain⟨c3,c5,c7,c8⟩:=cc4 (Keep.refl _ w4)
 refine zaK (fun i=>i==4) [(0,true),(1,true),(2,false),(3,false),(4,false)] NoS mixed (by kernel_rfl) ?_;intro gd K x hgd hx hxe hK;have hx0:=zbc hxe;clear hxe
 have d3:=zaa hx0 c3
 have d7:=zaa hx0 c7
 simp (disch:=first|omega|assumption|rfl) only[go_sem,d3,d7]
 refine Fn.mono (zdu _ _ o (ho4.ext hx0) (fun l hl=>by have:=hoT.1 l hl;omega) hoT.2) ?_
 rintro _ y1 ⟨rfl,hy1⟩
 refine⟨.inr hy1.keep,?_⟩
 simp (disch:=first|omega|assumption|rfl) only[go_sem]
 refine zbf (z:=vs []) (l:=([[36,79,82,73,71,73,78],zbx o]:List Lab).map vs) rfl rfl rfl rfl rfl rfl (fun v hv=>by obtain⟨q,_,rfl⟩:=List.mem_map.1 hv;rfl) (by simp) ?_
 intro y2 hy2 hys2 hyo
 refine⟨.inr hy2.keep,?_⟩
 simp (disch:=first|omega|assumption|rfl) only[go_sem]
 have hxy:=(hx0.trans hy1).trans hy2
 have hsxy:=hxy.size
 refine Fn.mono (zgt (B:=B) hyo.row (by simp) (by simp only[zar,List.map_cons,List.map_nil,List.sum_cons,List.sum_nil,List.length_cons,List.length_nil];omega) (hbld4.ext' hxy) (by omega) (by simp)) ?_
 rintro _ y3 ⟨hB3,hk3⟩
 refine⟨.inl rfl,?_⟩
 simp (disch:=first|omega|assumption|rfl) only[go_sem]
 refine hK _ _ ?_;clear hK hgd;clear K;try clear gd
 have hk34:Keep (fun i=>i=S+1∨B≤i) w4 y3:=(hxy.mono fun _ _ h=>h.elim).trans hk3
 have hs3:=hk34.size
 clear hk3 d3 d7 c3 c5 c7 c8 hyo
 obtain⟨c3,c5,c7,c8⟩:=cc4 hk34
 have hW3:WY y3:=hW.ext (Keep.to_ext hE4' rfl (fun b hb=>by omega) hk34)
 repeat refine c_r ?_
 refine zaK (fun i=>i==5) [(0,true),(1,true),(2,true),(3,false),(4,false),(5,false)] NoS mixed (by kernel_rfl) ?_;intro gd K x hgd hx hxe hK;have hx0:=zbc hxe;clear hxe
 have d5:=zaa hx0 c5
 have d7:=zaa hx0 c7
 have d8:=zaa hx0 c8
 simp (disch:=first|omega|assumption|rfl) only[go_sem,d5,d7,d8]
 refine Fn.mono (zgs (hW3.ext hx0) u (by omega)) ?_
 rintro _ x1 ⟨rfl,hx1⟩
 refine⟨.inr hx1.keep,?_⟩
 simp (disch:=first|omega|assumption|rfl) only[go_sem]
 refine zbf (z:=vs []) (l:=([[36,84,84,76],Lib.decDigits u]:List Lab).map vs) rfl rfl rfl rfl rfl rfl (fun v hv=>by obtain⟨q,_,rfl⟩:=List.mem_map.1 hv;rfl) (by simp) ?_
 intro x2 hx2 hxs2 hxo
 refine⟨.inr hx2.keep,?_⟩
 simp (disch:=first|omega|assumption|rfl) only[go_sem]
 have hxx:=(hx0.trans hx1).trans hx2
 have hsxx:=hxx.size
 have b1:=za7 [32] [[36,79,82,73,71,73,78],zbx o]
 simp only[zar,List.map_cons,List.map_nil,List.sum_cons,List.sum_nil,List.length_cons,List.length_nil]at b1
 refine Fn.mono (zgt (B:=B) hxo.row (by simp) (by simp only[zar,List.map_cons,List.map_nil,List.sum_cons,List.sum_nil,List.length_cons,List.length_nil];omega) (hB3.ext' hxx) (by omega) (by simp only[List.nil_append,List.length_append,List.length_cons,List.length_nil];omega)) ?_
 rintro _ z ⟨hBz,hkz⟩
 refine⟨.inl rfl,?_⟩
 simp (disch:=first|omega|assumption|rfl) only[go_sem]
 refine hK _ _ ?_;clear hK hgd;clear K;try clear gd
 have hk4z:Keep (fun i=>i=S+1∨B≤i) w4 z:=(hk34.trans (hxx.mono fun _ _ h=>h.elim)).trans hkz
 have hsz:=hk4z.size
 clear hkz d5 d7 d8 c3 c5 c7 c8 hxo
 rw[List.nil_append,show zby [32] [[36,79,82,73,71,73,78],zbx o]++ [10]++(zby [32] [[36,84,84,76],Lib.decDigits u]++ [10])=ze7 (u:Int) o by unfold ze7 numT;rw[Int.toNat_natCast]]at hBz
 have hhl:=zh2 (m:=(u:Int)) (o:=o) (by omega) hoT
 refine go trivial ?_
 refine rc trivial (Fresh_ok z ca C.length cc) ?_
 rintro _ z1 ⟨rfl,hEz1,hsz1,hbz1⟩
 refine rgo trivial ?_
 obtain⟨f,hf⟩:∃f,z.heap.size=f:=⟨_,rfl⟩
 have hz1s:z1.heap.size=f+1:=by omega
 have hk4z1:=hk4z.trans (hEz1.mono fun _ _ h=>h.elim)
 have hE3z1:Ext w3 z1:=Keep.to_ext hE34 rfl (fun b hb=>by omega) hk4z1
 have hU0:BldU (fun i=>B≤i∧(i<f∨f+3≤i)) z1 (S+1) (ze7 (u:Int) o):=(hBz.toU fun i h1 h2=>⟨h1,.inl (by omega)⟩).ext hEz1
 refine zeF (g:=123) (cap:=#[.pointer (some ⟨z.heap.size,0,Option.none⟩)]) (vq0) rfl (freshIt (n0:=z1.heap.size) (C:=fun i=>i=S+1∨(B≤i∧i<f)) hE3z1 hR3 hbz1 (by omega) (by omega) (fun b hb=>by omega) (by omega) (by omega) (fun r hr=>by have:=(hCT r hr).ow.2;omega)) (Keep.refl _ _) (Nat.le_refl _) (fun b hb=>by omega)
  (fun x A args h=>by obtain⟨cs,r,_,_,rfl⟩:=h;rfl)
  (fun pre A=>Keep (fun i=>i=S+1∨B≤i) w4 A∧BldU (fun i=>B≤i∧(i<f∨f+3≤i)) A (S+1) (ze7 (u:Int) o++pre.flatMap (zgH C (u:Int) o)))
  (fun _ _ _=>False) ?_ (fun _ _ _ _ h _=>h.elim) ?_ ?_ ?_ (fun _ _ _ _ _ _ _ h _=>h.elim)
 ·rintro pre A A' ⟨h1,h2⟩ hk
  exact⟨h1.trans (hk.mono fun i _ hi=>by unfold two at hi;omega),h2.keep hk (by unfold two;omega) fun i hi _ ht=>by unfold two at ht;omega⟩
 ·exact⟨hk4z1,by simpa using hU0⟩
 ·rintro lp pre x suf A args hxs hszA ⟨hkA,hBA⟩ ⟨cs,r,hxr,hcs,rfl⟩
  obtain⟨xi,xb⟩:=x
  simp only at hxr
  have hrT:=hCT r (List.mem_of_getElem? hxr)
  have hc7:=hcs.len
  obtain⟨ow,ds',hce,how,hdat⟩:=hcs.ex
  obtain⟨nm,nu,tx,rw',hde,_⟩:=hdat.ex
  have hE3A:Ext w3 A:=Keep.to_ext hE34 rfl (fun b hb=>by omega) hkA
  repeat refine c_r ?_
  refine rq ?_;intro gd K hgd hK
  try simp only[go_sem]
  refine zd8 (P:=Tryz.prog) (l:=cs) (by rw[hc7];rfl) hcs.ones (by rw[hc7];rfl) rfl ?_
  intro A1 hEA1 hsA1 hBv
  try simp only[go_sem]
  refine hK _ _ ?_;clear hK hgd;clear K;try clear gd
  repeat refine c_r ?_
  refine rq ?_;intro gd K hgd hK
  try simp only[go_sem]
  refine hK _ _ ?_;clear hK hgd;clear K;try clear gd
  refine zaq ?_
  refine⟨rfl,hEA1.toB (by omega) (fun _ _ h=>h.elim),fun A2 hA2=>?_⟩
  have hs2A:=hA2.size
  have hk42:Keep (fun i=>i=S+1∨B≤i) w4 A2:=(hkA.trans (hEA1.mono fun _ _ h=>h.elim)).trans (hA2.mono fun i _ hi=>by unfold two at hi;omega)
  have hBU2:=(hBA.ext hEA1).keep hA2 (by unfold two;omega) (fun i hi _ ht=>by unfold two at ht;omega)
  have hp2:=(hA2.block _ (by omega) (by unfold two;omega)).trans hBv
  obtain⟨e3,e5,e7,e8⟩:=cc4 hk42
  obtain⟨p,hp⟩:∃p,A.heap.size=p:=⟨_,rfl⟩
  rw[hp]at hp2
  have o0:zaf A2 (some ⟨p,0,Option.none⟩)=some ow:=zbF (l:=cs) (j:=0) hp2 (by rw[hce];rfl)
  have o1:zaf A2 (some ⟨p,1,Option.none⟩)=some (v32 r.ttl):=zbF (l:=cs) (j:=1) hp2 (by rw[hce];rfl)
  have o2:zaf A2 (some ⟨p,2,Option.none⟩)=some (vi r.dat.ty):=zbF (l:=cs) (j:=2) hp2 (by rw[hce,hde];rfl)
  have o5:zav A2 (some ⟨p,2,Option.none⟩) 5=some ds':=by
   have h7:=za4 (n:=7) hp2 hc7.symm
   have:=zcd (m:=2) (k:=5) h7
   rw[zaW]at this
   rw[hce,hde]at this
   rw[hde]
   exact this
  have hE3A2:Ext w3 A2:=Keep.to_ext hE34 rfl (fun b hb=>by omega) hk42
  have hWA2:WY A2:=hW.ext (hE13.trans hE3A2)
  have howA:=how.ext hE3A2
  have hoA:=ho.ext (hE13.trans hE3A2)
  obtain⟨k,hk⟩:∃k:Nat,r.ttl=k:=⟨r.ttl.toNat,by have:=hrT.tl;omega⟩
  have hkl:=hrT.tl
  obtain⟨N2,hN2⟩:∃N2,A2.heap.size=N2:=⟨_,rfl⟩
  simp only[hp]
  refine go trivial ?_
  refine rq ?_;intro gd K hgd hK
  try simp only[go_sem]
  refine zbM (z:=vs []) rfl rfl rfl rfl rfl ?_
  intro y1 hy1 hys1 hyo
  try simp only[go_sem]
  refine hK _ _ ?_;clear hK hgd;clear K;try clear gd
  rw[hN2]at hyo hys1 ⊢
  have hyb:=own_one hyo
  refine go trivial ?_
  refine zaA (Q:=fun e σ' ds' v'=>e= .normal∧ds'=[]∧Ext A2 v'∧v'.heap[N2]? =some (.cells #[vs (if xb=true then zcm r.owner o else [])] 9 (0,0))∧
   (σ' 5= .pointer (some ⟨S,0,Option.none⟩)∧σ' 7= .pointer (some ⟨S+2,0,Option.none⟩)∧σ' 8= .pointer (some ⟨S+3,0,Option.none⟩)∧σ' 9= .pointer (some ⟨p,0,Option.none⟩)∧σ' 11= .slice (some ⟨N2,0,Option.none⟩) 1 1)) ?_ ?_
  ·cases xb with
   |false=>
    refine go trivial ?_
    exact⟨rfl,rfl,hy1,by simpa using hyb,vr0,vr0,vr0,vr0,vr0⟩
   |true=>
    refine go trivial ?_
    have q0:=zaa hy1 o0
    have q3:=zaa hy1 e3
    refine rq ?_;intro gd K hgd hK
    try simp (disch:=first|omega|assumption|rfl) only[go_sem,q0,q3,Nat.zero_add]
    refine Fn.mono (zeH (howA.ext hy1) (hoA.ext hy1) ⟨hrT.ow.1,hrT.ow.2⟩ hoT) ?_
    rintro _ y2 ⟨rfl,hy2⟩
    try simp (disch:=first|omega|assumption|rfl) only[go_sem,zaH,Nat.zero_mul]
    refine za9 (P:=Tryz.prog) rfl rfl rfl (Ext.at hy2 hyb) (by simp) (by simp) ?_
    intro y3 hs3' hb3 hk3
    try simp only[go_sem]
    refine hK _ _ ?_;clear hK hgd;clear K;try clear gd
    refine go trivial ?_
    exact⟨rfl,rfl,Keep.to_ext (hy1.trans hy2) rfl (fun b hb=>by omega) hk3,by simpa using hb3,vr0,vr0,vr0,vr0,vr0⟩
  rintro _ σ1 _ v1 ⟨rfl,rfl,hEv1,hrow1,s5,s7,s8,s9,s11⟩
  have hlv1:=(Array.getElem?_eq_some_iff.1 hrow1).1
  obtain⟨sh,hsh⟩:∃sh,(if xb=true then zcm r.owner o else([]:Lab))=sh:=⟨_,rfl⟩
  rw[hsh]at hrow1
  obtain⟨t,ht⟩:∃t,decide (r.ttl=(u:Int))=t:=⟨_,rfl⟩
  have r1:=zaa hEv1 o1
  have r5:=zaa hEv1 e5
  refine go (an8 s5 s7 s8 s9 s11 r1 r5 ht) ?_
  refine zaA (Q:=fun e σ' ds' v'=>e= .normal∧ds'=[]∧Ext A2 v'∧(∃sv,σ' 11=sv∧Own N2 v' 9 sv ((sh::if t=true then [] else [numT r.ttl]).map vs))∧
   (σ' 7= .pointer (some ⟨S+2,0,Option.none⟩)∧σ' 9= .pointer (some ⟨p,0,Option.none⟩))) ?_ ?_
  ·cases t with
   |true=>
    refine go trivial ?_
    exact⟨rfl,rfl,hEv1,⟨_,(vq1 s11),zhN hrow1 (Nat.le_refl _)⟩,(vq1 s7),(vq1 s9)⟩
   |false=>
    refine go trivial ?_
    have r8:=zaa hEv1 e8
    have r1':zaf v1 (some ⟨p,1,Option.none⟩)=some (.int .u32 (k:Nat)):=by rw[r1,hk]
    refine rq ?_;intro gd K hgd hK
    try simp (disch:=first|omega|assumption|rfl) only[go_sem,s11,s8,s9,r8,r1',Nat.zero_add]
    refine Fn.mono (zgs (hWA2.ext hEv1) k (by omega)) ?_
    rintro _ q1 ⟨rfl,hq1⟩
    try simp only[go_sem]
    refine zbM (z:=vs []) rfl rfl rfl rfl rfl ?_
    intro q2 hq2 hqs2 hqo
    try simp (disch:=first|omega|assumption|rfl) only[go_sem,s11]
    have hq12:=hq1.trans hq2
    have hsq:=hq12.size
    refine zbr (e:=9) ((zhN hrow1 (Nat.le_refl _)).ext hq12) hqo.row rfl rfl rfl rfl rfl rfl ((vr1 s11)) (vr0) (fun q hq=>by simp at hq;subst hq;rfl) (by simp) (by decide) (by omega) ?_
    intro sv' q3 hown3 hX3 hK3 hb3
    try simp only[go_sem]
    refine hK _ _ ?_;clear hK hgd;clear K;try clear gd
    refine go trivial ?_
    refine⟨rfl,rfl,hX3 A2 (hEv1.trans hq12) (by omega),⟨sv',vr0,?_⟩,(vq1 s7),(vq1 s9)⟩
    rw[if_neg (by decide),hk]
    have:numT (k:Int)=Lib.decDigits k:=by unfold numT;rw[Int.toNat_natCast]
    rw[this]
    exact hown3
  clear s5 s7 s8 s9 s11 r1 r5
  rintro _ σ2 _ v2 ⟨rfl,rfl,hEv2,⟨sv,s11,hown⟩,s7,s9⟩
  have hsv2:=hEv2.size
  have r7:=zaa hEv2 e7
  have r2:=zaa hEv2 o2
  have r5:=zai hEv2 o5
  refine go (an2 s7 s9) ?_
  refine zaK (fun i=>i==11) [(0,true),(1,true),(2,true),(3,true),(4,true),(6,true),(7,true),(5,false),(8,false),(9,false),(10,false),(11,false)] (zbR N2) mixed (by kernel_rfl) ?_;intro gd K x hgd hx hxe hK;have hx0:=zbc hxe;clear hxe
  have q7:=zaa hx0 r7
  have q2:=zaa hx0 r2
  have q5:=zai hx0 r5
  simp (disch:=first|omega|assumption|rfl) only[go_sem,s7,s9,s11,q7,q2,q5,Nat.zero_add]
  refine⟨zaU (by omega),zaU (by omega),zaU (by omega),?_⟩
  refine Fn.mono (zgn ((hWA2.ext hEv2).ext hx0) r.dat.ty hrT.ty.1 hrT.ty.2) ?_
  rintro _ y1 ⟨rfl,hy1'⟩
  refine⟨.inr hy1'.keep,?_⟩
  simp (disch:=first|omega|assumption|rfl) only[go_sem]
  refine Fn.mono (zd1 (((hWA2.ext hEv2).ext hx0).ext hy1') (hdat.ext (((hE3A2.trans hEv2).trans hx0).trans hy1')) hrT.dat) ?_
  rintro _ y2 ⟨rfl,hy2⟩
  refine⟨.inr hy2.keep,?_⟩
  simp (disch:=first|omega|assumption|rfl) only[go_sem]
  refine zbf (z:=vs []) (l:=([[73,78],tyT r.dat.ty,zcQ hexU r.dat]:List Lab).map vs) rfl rfl rfl rfl rfl rfl (fun v hv=>by obtain⟨q,_,rfl⟩:=List.mem_map.1 hv;rfl) (by simp) ?_
  intro y3 hy3 hys3 hyo3
  refine⟨.inr hy3.keep,?_⟩
  simp (disch:=first|omega|assumption|rfl) only[go_sem,s11]
  have hxy:=((hx0.trans hy1').trans hy2).trans hy3
  have hsxy:=hxy.size
  have hll:(sh::if t=true then([]:List Lab) else [numT r.ttl]).length≤2:=by split<;>simp
  refine zbr (e:=9) (hown.ext hxy) hyo3.row rfl rfl rfl rfl rfl rfl ((vr1 s11)) (vr0) (fun q hq=>by obtain⟨_,_,rfl⟩:=List.mem_map.1 hq;rfl) (by rw[List.length_map,List.length_map];simp only[List.length_cons,List.length_nil];simp only[List.length_cons]at hll;omega) (by decide) (by omega) ?_
  intro sv4 y4 hown4 hX4 hK4 hb4
  refine⟨.inr (hK4.mono fun b _ hb=>by have:=(hown.ge hb).1;show _≤_;omega),?_⟩
  simp (disch:=first|omega|assumption|rfl) only[go_sem,s7,q7]
  have hsy4:=hK4.size
  have hE24:Ext A2 y4:=hX4 A2 (hEv2.trans hxy) (by omega)
  have hline:ze5 C (u:Int) o (xi,xb)=(sh::if t=true then [] else [numT r.ttl])++ [[73,78],tyT r.dat.ty,zcQ hexU r.dat]:=by
   unfold ze5
   simp only[hxr,hsh,←ht,decide_eq_true_eq]
  have hrow4:Row y4 sv4 ((ze5 C (u:Int) o (xi,xb)).map vs):=by
   rw[hline,List.map_append];exact hown4.row
  obtain⟨k1,k2⟩:=ze4 (C:=C) (m:=(u:Int)) (o:=o) (x:=(xi,xb)) hCT
  have hpl:pre.length<C.length:=by
   have:=congrArg List.length hxs
   rw[zb9,List.length_append,List.length_cons]at this
   omega
  have hfl:=zcX (m:=(u:Int)) (o:=o) hCT pre
  have hm4:400000000*pre.length≤400000000*100:=Nat.mul_le_mul_left _ (by omega)
  refine Fn.mono (File1_U hrow4 (by omega) (by omega) (hBU2.ext hE24) (fun i hi=>by constructor<;>omega) (by rw[List.length_append];omega)) ?_
  rintro _ y5 ⟨hB5',hk5⟩
  refine⟨.inl rfl,?_⟩
  simp (disch:=first|omega|assumption|rfl) only[go_sem]
  refine hK _ _ ?_;clear hK hgd;clear K;try clear gd
  refine go trivial ?_
  refine⟨⟨(hk42.trans (hE24.mono fun _ _ h=>h.elim)).trans (hk5.mono fun i _ hi=>by omega),?_⟩,(hE24.toB (by omega) (fun _ _ h=>h.elim)).trans (hk5.toB (by omega) (fun j hj h=>by omega))⟩
  rw[List.flatMap_append,List.flatMap_singleton,←List.append_assoc]
  exact hB5'
 ·intro A hszA ⟨hkA,hBA⟩ hD
  have hfl:=zcX (m:=(u:Int)) (o:=o) hCT (zbi C)
  rw[zb9]at hfl
  have hm4:400000000*C.length≤400000000*100:=Nat.mul_le_mul_left _ (by omega)
  refine go trivial ?_
  refine rq ?_;intro gd K hgd hK
  try simp only[go_sem]
  refine Fn.mono (String_U hBA (by rw[List.length_append];omega)) ?_
  rintro _ z2 ⟨rfl,hkz⟩
  try simp only[go_sem]
  refine hK _ _ ?_;clear hK hgd;clear K;try clear gd
  refine go trivial ?_
  refine zep (v:=vs (ze7 (u:Int) o++(zbi C).flatMap (zgH C (u:Int) o))) (.inr rfl) (by rfl) Tryz.ntmps17 (vr0) ((hkz.block _ (by omega) (by omega)).trans hD) ?_
  intro Z hkZ hsZ
  exact⟨by rw[hu],Keep.to_ext (Keep.to_ext (Keep.to_ext hE4' rfl (fun b hb=>by omega) hkA) rfl (fun b hb=>by omega) hkz) rfl (fun b hb=>by omega) hkZ⟩
set_option maxRecDepth 100000
theorem bsL_at{P:Program}{w:World}{K:Value→World→Prop}{t e:TypeId}{n:Nat}{parts:List (Nat×Value)}{arr:Array Value}(h:bsC P t n parts=some (e,arr))
  (hk:∀w1,Ext w w1→w1.heap.size=w.heap.size+1→w1.heap[w.heap.size]? =some (.cells arr e (0,0))→K (.slice (some ⟨w.heap.size,0,Option.none⟩) n n) w1):bsL P t n parts w K .mk:=by
 unfold bsL bsK
 rw[h]
 exact hk _ (Ext.alloc w _) (zat w _) (zak w _)
theorem zgF(w:World):NamesAt w (.slice Option.none 0 0) []:=⟨[],(Own.nil 0 w 0).row,rfl,fun i h=>absurd h (by simp)⟩
theorem zhO{w:World}{nv sv:Value}{n:Nm}(h1:Row w sv [nv])(h2:Row w nv (n.map vs)):NamesAt w sv [n]:=⟨[nv],h1,rfl,fun i h h'=>by
 have h0:i=0:=by simp at h;omega
 subst h0
 exact h2⟩
def kNm:Nm:=[[97],[111]]
def kRa:RecL:=⟨kNm,60,⟨1,[],[],[],[1,2,3,4]⟩⟩
def kRb:RecL:=⟨kNm,60,⟨2,[[[120]]],[],[],[]⟩⟩
theorem kRa_T:RecT kRa:=⟨by decide,by decide,by decide,⟨⟨by decide,by decide,by decide,by decide,by decide,by decide,by decide⟩,by decide⟩⟩
theorem kRb_T:RecT kRb:=⟨by decide,by decide,by decide,⟨⟨by decide,by decide,by decide,by decide,by decide,by decide,by decide⟩,by decide⟩⟩
theorem kRa_ok:zcw kRa:=⟨by unfold LB;decide,by decide,⟨by unfold LB;decide,by decide,by decide,by decide,by decide,by decide⟩⟩
theorem kRb_ok:zcw kRb:=⟨by unfold LB;decide,by decide,⟨by unfold LB;decide,by decide,by decide,by decide,by decide,by decide⟩⟩
theorem k_all{Q:RecL→Prop}(h1:Q kRa)(h2:Q kRb):∀r∈ [kRa,kRb],Q r:=fun r hr=>by
 simp only[List.mem_cons,List.not_mem_nil,or_false]at hr
 rcases hr with rfl|rfl
 ·exact h1
 ·exact h2
theorem k_file:zgS [kRa,kRb] [[111]]=[36,79,82,73,71,73,78,32,111,46,10,36,84,84,76,32,54,48,10,97,32,73,78,32,65,32,49,46,50,46,51,46,52,10,32,73,78,32,78,83,32,120,46,10]:=by decide+kernel
theorem k_sh1:zcm kNm kNm=[64]:=by decide+kernel
theorem k_sh2:zcm kNm [[113]]=[97,46,111,46]:=by decide+kernel
theorem k_lin:zed [kRa]=[97,46,111,46,32,54,48,32,73,78,32,65,32,49,46,50,46,51,46,52,10]:=by decide+kernel
theorem zg9{w0:World}(hW:WY w0):Fn Tryz.prog 13 #[] w0 (fun v w'=>v= .bool true∧Ext w0 w'):=by
 refine enter Tryz.func13 Tryz.ntmps13 rfl rfl ?_
 refine go trivial ?_
 refine rq ?_;intro gd K hgd hK
 try simp only[go_sem]
 refine zbf (z:=vs []) (l:=[vs [97],vs [111]]) rfl rfl rfl rfl rfl rfl (fun v hv=>by simp at hv;rcases hv with rfl|rfl<;>rfl) (by simp) ?_
 intro x1 e1 s1 o1
 obtain⟨c1,hc1⟩:∃c,w0.heap.size=c:=⟨_,rfl⟩
 rw[hc1]at o1 ⊢
 have r1:Row x1 (.slice (some ⟨c1,0,Option.none⟩) 2 2) (kNm.map vs):=o1.row
 try simp only[go_sem]
 refine hK _ _ ?_;clear hK hgd;clear K;try clear gd
 refine go trivial ?_
 refine rq ?_;intro gd K hgd hK
 try simp only[go_sem]
 refine zbf (z:= .int .u8 0) (l:=[.int .u8 1,.int .u8 2,.int .u8 3,.int .u8 4]) rfl rfl rfl rfl rfl rfl (fun v hv=>by simp at hv;rcases hv with rfl|rfl|rfl|rfl<;>rfl) (by simp) ?_
 intro x2 e2 s2 o2
 obtain⟨c2,hc2⟩:∃c,x1.heap.size=c:=⟨_,rfl⟩
 rw[hc2]at o2 ⊢
 have r2:Row x2 (.slice (some ⟨c2,0,Option.none⟩) 4 4) (([1,2,3,4]:List UInt8).map zaj):=o2.row
 try simp only[go_sem]
 refine⟨by kernel_rfl,?_⟩
 rw[show bdV Tryz.prog 33 [(0,vi 1),(4,.slice (some ⟨c2,0,Option.none⟩) 4 4)]=some (.agg #[vi 1,.slice Option.none 0 0,.slice Option.none 0 0,.slice Option.none 0 0,.slice (some ⟨c2,0,Option.none⟩) 4 4]) from by kernel_rfl]
 try simp only[go_sem]
 refine⟨by kernel_rfl,?_⟩
 rw[show bdV Tryz.prog 35 [(0,.slice (some ⟨c1,0,Option.none⟩) 2 2),(1,v32 60),(2,.agg #[vi 1,.slice Option.none 0 0,.slice Option.none 0 0,.slice Option.none 0 0,.slice (some ⟨c2,0,Option.none⟩) 4 4])]=some (.agg #[.slice (some ⟨c1,0,Option.none⟩) 2 2,v32 60,vi 1,.slice Option.none 0 0,.slice Option.none 0 0,.slice Option.none 0 0,.slice (some ⟨c2,0,Option.none⟩) 4 4]) from by kernel_rfl]
 try simp only[go_sem]
 refine zbf (z:=vs []) (l:=[vs [120]]) rfl rfl rfl rfl rfl rfl (fun v hv=>by simp at hv;rcases hv with rfl;rfl) (by simp) ?_
 intro x3 e3 s3 o3
 obtain⟨c3,hc3⟩:∃c,x2.heap.size=c:=⟨_,rfl⟩
 rw[hc3]at o3 ⊢
 have r3:Row x3 (.slice (some ⟨c3,0,Option.none⟩) 1 1) (([[120]]:Nm).map vs):=o3.row
 try simp only[go_sem]
 refine zbf (z:= .slice Option.none 0 0) (l:=[.slice (some ⟨c3,0,Option.none⟩) 1 1]) rfl rfl rfl rfl rfl rfl (fun v hv=>by simp at hv;subst hv;rfl) (by simp) ?_
 intro x4 e4 s4 o4
 obtain⟨c4,hc4⟩:∃c,x3.heap.size=c:=⟨_,rfl⟩
 rw[hc4]at o4 ⊢
 have r4:=o4.row
 try simp only[go_sem]
 refine⟨by kernel_rfl,?_⟩
 rw[show bdV Tryz.prog 33 [(0,vi 2),(1,.slice (some ⟨c4,0,Option.none⟩) 1 1)]=some (.agg #[vi 2,.slice (some ⟨c4,0,Option.none⟩) 1 1,.slice Option.none 0 0,.slice Option.none 0 0,.slice Option.none 0 0]) from by kernel_rfl]
 try simp only[go_sem]
 refine⟨by kernel_rfl,?_⟩
 rw[show bdV Tryz.prog 35 [(0,.slice (some ⟨c1,0,Option.none⟩) 2 2),(1,v32 60),(2,.agg #[vi 2,.slice (some ⟨c4,0,Option.none⟩) 1 1,.slice Option.none 0 0,.slice Option.none 0 0,.slice Option.none 0 0])]=some (.agg #[.slice (some ⟨c1,0,Option.none⟩) 2 2,v32 60,vi 2,.slice (some ⟨c4,0,Option.none⟩) 1 1,.slice Option.none 0 0,.slice Option.none 0 0,.slice Option.none 0 0]) from by kernel_rfl]
 try simp only[go_sem]
 refine bsL_at (e:=35) (arr:=#[.slice (some ⟨c1,0,Option.none⟩) 2 2,v32 60,vi 1,.slice Option.none 0 0,.slice Option.none 0 0,.slice Option.none 0 0,.slice (some ⟨c2,0,Option.none⟩) 4 4,.slice (some ⟨c1,0,Option.none⟩) 2 2,v32 60,vi 2,.slice (some ⟨c4,0,Option.none⟩) 1 1,.slice Option.none 0 0,.slice Option.none 0 0,.slice Option.none 0 0]) (by kernel_rfl) ?_
 intro x5 e5 s5 b5
 obtain⟨c5,hc5⟩:∃c,x4.heap.size=c:=⟨_,rfl⟩
 rw[hc5]at b5 ⊢
 try simp only[go_sem]
 refine hK _ _ ?_;clear hK hgd;clear K;try clear gd
 have hE5:=(((e1.trans e2).trans e3).trans e4).trans e5
 have hn5:=r1.ext (((e2.trans e3).trans e4).trans e5)
 have hrows:Rows 7 (RecAt x5) x5 (.slice (some ⟨c5,0,Option.none⟩) [kRa,kRb].length 2) [kRa,kRb]:=by
  refine Rows.close (by decide) (fun i hi=>?_)
  have hi2:i=0∨i=1:=by
   have h2:i<2:=hi
   omega
  rcases hi2 with rfl|rfl
  ·refine⟨_,by rw[zaW];exact zam b5 (Nat.le_of_ble_eq_true rfl),⟨_,_,rfl,hn5,⟨_,_,_,_,rfl,zgF _,(Own.nil 0 _ 0).row,(Own.nil 0 _ 0).row,r2.ext ((e3.trans e4).trans e5)⟩⟩⟩
  ·refine⟨_,by rw[zaW];exact zam b5 (Nat.le_of_ble_eq_true rfl),⟨_,_,rfl,hn5,⟨_,_,_,_,rfl,zhO (r4.ext e5) (r3.ext (e4.trans e5)),(Own.nil 0 _ 0).row,(Own.nil 0 _ 0).row,(Own.nil 0 _ 0).row⟩⟩⟩
 refine go trivial ?_
 refine rq ?_;intro gd K hgd hK
 have hg4:∀n σ b,zap gd n σ (some (4,b))=zah (ev n σ (.tmp 18)) b:=(fun n σ b=>by rw[zab,show gd 4=some 18 from(by rw[hgd];rfl)];rfl);have hg10:∀n σ b,zap gd n σ (some (10,b))=zah (ev n σ (.tmp 24)) b:=(fun n σ b=>by rw[zab,show gd 10=some 24 from(by rw[hgd];rfl)];rfl);have hg16:∀n σ b,zap gd n σ (some (16,b))=zah (ev n σ (.tmp 30)) b:=(fun n σ b=>by rw[zab,show gd 16=some 30 from(by rw[hgd];rfl)];rfl)
 try simp (disch:=first|omega|assumption|rfl) only[go_sem,↓hg4,↓hg10,↓hg16]
 refine zbf (z:=vs []) (l:=[vs [111]]) rfl rfl rfl rfl rfl rfl (fun v hv=>by simp at hv;rcases hv with rfl;rfl) (by simp) ?_
 intro x6 e6 s6 o6
 try simp (disch:=first|omega|assumption|rfl) only[go_sem,↓hg4,↓hg10,↓hg16]
 have hW6:=(hW.ext hE5).ext e6
 refine Fn.mono (zfV (o:=[[111]]) hW6 ((hrows.ext e6).to fun cs a h=>h.ext e6) (k_all kRa_T kRb_T) (k_all kRa_ok kRb_ok) (by decide) o6.row ⟨by decide,by decide⟩) ?_
 rintro _ x7 ⟨rfl,e7⟩
 rw[k_file]
 have d1:decide (([36,79,82,73,71,73,78,32,111,46,10,36,84,84,76,32,54,48,10,97,32,73,78,32,65,32,49,46,50,46,51,46,52,10,32,73,78,32,78,83,32,120,46,10]:Lab)=[36,79,82,73,71,73,78,32,111,46,10,36,84,84,76,32,54,48,10,97,32,73,78,32,65,32,49,46,50,46,51,46,52,10,32,73,78,32,78,83,32,120,46,10])=true:=decide_eq_true rfl
 try simp (disch:=first|omega|assumption|rfl) only[go_sem,d1,↓hg4,↓hg10,↓hg16]
 have hn7:=(hn5.ext e6).ext e7
 refine Fn.mono (zeH (n:=kNm) (o:=kNm) hn7 hn7 ⟨by decide,by decide⟩ ⟨by decide,by decide⟩) ?_
 rintro _ x8 ⟨rfl,e8⟩
 rw[k_sh1]
 have d2:decide (([64]:Lab)=[64])=true:=decide_eq_true rfl
 try simp (disch:=first|omega|assumption|rfl) only[go_sem,d2,↓hg4,↓hg10,↓hg16]
 refine zbf (z:=vs []) (l:=[vs [113]]) rfl rfl rfl rfl rfl rfl (fun v hv=>by simp at hv;rcases hv with rfl;rfl) (by simp) ?_
 intro x9 e9 s9 o9
 try simp (disch:=first|omega|assumption|rfl) only[go_sem,↓hg4,↓hg10,↓hg16]
 refine Fn.mono (zeH (n:=kNm) (o:=[[113]]) ((hn7.ext e8).ext e9) o9.row ⟨by decide,by decide⟩ ⟨by decide,by decide⟩) ?_
 rintro _ y1 ⟨rfl,f1⟩
 rw[k_sh2]
 have d3:decide (([97,46,111,46]:Lab)=[97,46,111,46])=true:=decide_eq_true rfl
 have hE57:=(((e6.trans e7).trans e8).trans e9).trans f1
 try simp (disch:=first|omega|assumption|rfl) only[go_sem,d3,zaH,↓hg4,↓hg10,↓hg16]
 refine Fn.mono (Lines_ok (R:=[kRa]) (hW.ext (hE5.trans hE57)) (((hrows.take (m:=1) (c2:=2) (by decide) (by decide)).ext hE57).to fun cs a h=>h.ext hE57) (fun r hr=>by rw[List.mem_singleton.1 hr];exact kRa_T) (by decide)) ?_
 rintro _ y2 ⟨rfl,f2⟩
 rw[k_lin]
 have d4:decide (([97,46,111,46,32,54,48,32,73,78,32,65,32,49,46,50,46,51,46,52,10]:Lab)=[97,46,111,46,32,54,48,32,73,78,32,65,32,49,46,50,46,51,46,52,10])=true:=decide_eq_true rfl
 try simp (disch:=first|omega|assumption|rfl) only[go_sem,d4,↓hg4,↓hg10,↓hg16]
 refine hK _ _ ?_;clear hK hgd;clear K;try clear gd
 refine go trivial ?_
 refine rt0 Tryz.ntmps13 ?_
 exact⟨rfl,(hE5.trans hE57).trans f2⟩
section
variable {α : Type} {cf : α → α → Int} {jn : α → α → α}
theorem zeb(hc:Cpr cf)(hj:Join cf jn)(hs:∀x a b,jn (jn x a) b=jn (jn x b) a){a b:α}(h0:cf a b=0)(hab:jn a b=jn b a):∀(l:List α),putC cf jn a (putC cf jn b l)=putC cf jn b (putC cf jn a l)
 | []=>by
  have n1:=hc.neg a b
  simp only[putC]
  rw[if_neg (show¬cf b a<0 by omega),if_pos (show cf b a=0 by omega),if_neg (show¬cf a b<0 by omega),if_pos h0,hab]
 |x::l=>by
  have ex:=hc.eqr (c:=x) h0
  have n1:=hc.neg a b
  by_cases ea:cf x a<0
  ·have eb:cf x b<0:=by omega
   simp only[putC,if_pos ea,if_pos eb]
   rw[zeb hc hj hs h0 hab l]
  ·by_cases ea0:cf x a=0
   ·have eb0:cf x b=0:=by omega
    have eb:¬cf x b<0:=by omega
    have e2:=hj.same x b a eb0
    have e3:=hj.same x a b ea0
    simp only[putC]
    rw[if_neg eb,if_pos eb0,if_neg ea,if_pos ea0]
    simp only[putC]
    rw[if_neg (by omega),if_pos (by omega),if_neg (by omega),if_pos (by omega),hs]
   ·have eb0:¬cf x b=0:=by omega
    have eb:¬cf x b<0:=by omega
    simp only[putC]
    rw[if_neg eb,if_neg eb0,if_neg ea,if_neg ea0]
    simp only[putC]
    rw[if_neg (show¬cf b a<0 by omega),if_pos (show cf b a=0 by omega),if_neg (show¬cf a b<0 by omega),if_pos h0,hab]
theorem zhF(hc:Cpr cf)(hj:Join cf jn)(hs:∀x a b,jn (jn x a) b=jn (jn x b) a){a b:α}(hab:cf a b=0→jn a b=jn b a)(l:List α)(hl:l.Pairwise (fun a b=>cf a b<0)):putC cf jn a (putC cf jn b l)=putC cf jn b (putC cf jn a l):=by
 by_cases h0:cf a b=0
 ·exact zeb hc hj hs h0 (hab h0) l
 ·by_cases h1:cf a b<0
  ·exact zcB hc hj h1 l hl
  ·have n1:=hc.neg a b
   exact(zcB hc hj (show cf b a<0 by omega) l hl).symm
theorem zgP(hc:Cpr cf)(hj:Join cf jn)(hs:∀x a b,jn (jn x a) b=jn (jn x b) a){l l':List α}(hp:l.Perm l'):(∀a∈l,∀b∈l,cf a b=0→jn a b=jn b a)→∀acc:List α,acc.Pairwise (fun a b=>cf a b<0)→zbC cf jn (fun r=>r) l acc=zbC cf jn (fun r=>r) l' acc:=by
 induction hp with
 |nil=>intro _ _ _;rfl
 |cons x _ ih=>intro h acc ha;exact ih (fun a ha b hb=>h a (List.mem_cons_of_mem _ ha) b (List.mem_cons_of_mem _ hb)) _ (zbq hc hj ha)
 |swap x y l=>
  intro h acc ha
  show zbC cf jn (fun r=>r) l (putC cf jn x (putC cf jn y acc))=zbC cf jn (fun r=>r) l (putC cf jn y (putC cf jn x acc))
  rw[zhF hc hj hs (h x (by simp) y (by simp)) acc ha]
 |trans p q ih1 ih2=>
  intro h acc ha
  rw[ih1 h acc ha,ih2 (fun a ha b hb=>h a (p.mem_iff.2 ha) b (p.mem_iff.2 hb)) acc ha]
end
theorem zgc{α:Type}{cf:α→α→Int}:∀{a b:List α},(∀x∈a,∀y∈b,cf x y=0→x=y)→lexC cf a b=0→a=b
 | [],[],_,_=>rfl
 | [],_::_,_,h=>absurd h (by simp[lexC])
 |_::_,[],_,h=>absurd h (by simp[lexC])
 |x::a,y::b,hq,h=>by
  simp only[lexC]at h
  by_cases e:cf x y=0
  ·rw[if_pos e]at h
   rw[hq x (List.mem_cons_self ..) y (List.mem_cons_self ..) e,zgc (fun u hu v hv=>hq u (List.mem_cons_of_mem _ hu) v (List.mem_cons_of_mem _ hv)) h]
  ·rw[if_neg e]at h;exact absurd h e
def zc2(r:RecL):RecL:=⟨zao r.owner,r.ttl,⟨r.dat.ty,r.dat.names.map zao,r.dat.nums,r.dat.texts,r.dat.raw⟩⟩
def zhb(r:RecL):Prop:=zao r.owner=r.owner∧∀n∈r.dat.names,zao n=n
theorem zgN(r:RecL):zhb (zc2 r):=⟨zef _,fun n hn=>by
 obtain⟨m,_,rfl⟩:=List.mem_map.1 hn
 exact zef m⟩
theorem zih{a b:Int}(h:cmpI a b=0):a=b:=by
 unfold cmpI at h
 (repeat' split at h)<;>omega
theorem zh6{a b:RecL}(ha:zhb a)(hb:zhb b)(h:zau a b=0):a.owner=b.owner∧a.dat=b.dat:=by
 unfold zau orI at h
 split at h
 ·rename_i h1
  simp only[orI]at h
  unfold zfg at h1
  have e1:=zdN h1
  rw[ha.1,hb.1]at e1
  refine⟨e1,?_⟩
  split at h
  ·rename_i h2
   split at h
   ·rename_i h3
    clear h
    unfold cmpD orI at h3
    split at h3
    ·rename_i g1
     simp only[orI]at h3
     split at h3
     ·rename_i g2
      split at h3
      ·rename_i g3
       split at h3
       ·rename_i g4
        split at h3
        ·rename_i g5
         obtain⟨o1,t1,⟨a1,a2,a3,a4,a5⟩⟩:=a
         obtain⟨o2,t2,⟨b1,b2,b3,b4,b5⟩⟩:=b
         have k1:=zih g1
         have k2:a2=b2:=zgc (fun x hx y hy h=>by
          have:=zdN h
          rwa [ha.2 x hx,hb.2 y hy]at this) g2
         have k3:a3=b3:=zgc (fun x _ y _ h=>zih h) g3
         have k4:a4=b4:=zgc (fun x _ y _ h=>zbt h) g4
         have k5:=zbt g5
         simp only at k1 k5
         rw[k1,k2,k3,k4,k5]
        ·contradiction
       ·contradiction
      ·contradiction
     ·contradiction
    ·contradiction
   ·contradiction
  ·contradiction
 ·contradiction
theorem min_swap(x a b:RecL):minT (minT x a) b=minT (minT x b) a:=by
 unfold minT
 simp only[RecL.mk.injEq,true_and,and_true]
 omega
theorem min_same{a b:RecL}(h1:a.owner=b.owner)(h2:a.dat=b.dat):minT a b=minT b a:=by
 unfold minT
 simp only[RecL.mk.injEq,h1,h2,true_and,and_true]
 omega
theorem zg2{l l':List RecL}(hp:l.Perm l')(hf:∀r∈l,zhb r):zba l=zba l':=
 zgP cpr_R zhZ min_swap hp (fun a ha b hb h=>by
  have:=zh6 (hf a ha) (hf b hb) h
  exact min_same this.1 this.2) [] List.Pairwise.nil
theorem zfM(r:RecL):zau r r=0:=by
 have:=cpr_R.neg r r
 omega
theorem zfQ(r:RecL)(l:List RecL):zba (r::r::l)=zba (r::l):=by
 show zbC zau minT (fun r=>r) l (putC zau minT r (putC zau minT r []))=zbC zau minT (fun r=>r) l (putC zau minT r [])
 have h0:=zfM r
 have e:minT r r=r:=by unfold minT;rw[Int.min_self]
 simp only[putC]
 rw[if_neg (by omega),if_pos h0,e]
theorem zg1{m:List RecL}{r:RecL}{l:List RecL}(hm:m=r::l)(hf:∀x∈m,zhb x)(k:Nat):zba (m.drop k++m.take k++ [r])=zba m:=by
 have hp:(m.drop k++m.take k++ [r]).Perm (r::m):=by
  have h1:(m.drop k++m.take k).Perm m:=by
   have:=List.perm_append_comm (l₁:=m.drop k) (l₂:=m.take k)
   rwa [List.take_append_drop]at this
  exact(List.perm_append_comm (l₁:=m.drop k++m.take k) (l₂:=[r])).trans (h1.cons r)
 rw[zg2 hp (fun x hx=>?_),hm,zfQ]
 rcases List.mem_append.1 hx with hx|hx
 ·rcases List.mem_append.1 hx with hx|hx
  ·exact hf x (List.mem_of_mem_drop hx)
  ·exact hf x (List.mem_of_mem_take hx)
 ·rw[List.mem_singleton.1 hx];exact hf r (hm▸List.mem_cons_self ..)
section
variable {H : Type} {enc : TypeId × Value → H} {P : Program} {w : World} {base : Nat} {sp : Nat → Bool} {held : Bool}
def RdC(enc:TypeId×Value→H)(P:Program)(w:World)(base:Nat)(sp:Nat→Bool)(held:Bool)(t:TypeId)(cs:List Value):Prop:=∃n x,DataW.trod enc P w base sp held n t cs=some x∧∀k∈x.1.weights P t,k≤reachBytes
theorem RdC.one{t:TypeId}{v:Value}(h:RdC enc P w base sp held t [v]):Rd enc P w base sp held t v:=h
theorem Rd.c{t:TypeId}{v:Value}(h:Rd enc P w base sp held t v):RdC enc P w base sp held t [v]:=h
theorem zfh{a:Addr}:∀(k i:Nat) {l:List Value},l.length=k→(∀j (h:j<l.length),w.cell? (a.add (i+j))=some l[j])→zaG w a i k=some l
 |0,_,l,hl,_=>by
  have:l=[]:=List.length_eq_zero_iff.1 hl
  subst this;rfl
 |k+1,i,l,hl,h=>by
  cases l with
  |nil=>cases hl
  |cons v l=>
   have h0:=h 0 (by simp)
   have ih:=zfh (l:=l) k (i+1) (by simpa using hl) (fun j hj=>by
    have:=h (j+1) (by simpa using hj)
    rw[show i+(j+1)=i+1+j from by omega]at this
    simpa using this)
   unfold zaG
   rw[Nat.add_zero]at h0
   rw[h0,ih];rfl
theorem zhA{t e:TypeId}{k:Nat}{v:Value}(h:Rd enc P w base sp held t v)(ht:P.underlying t=some (.slice e))(hc:P.cellsOf e=k):
  ∃L,RowK k w v L∧(∀cs∈L,RdC enc P w base sp held e cs)∧L.length*P.bytesOf e≤reachBytes:=by
 obtain⟨n,x,h,hw⟩:=h
 rcases Go.Deep.open_slice ht h with ⟨h1,_⟩| ⟨a,len,cap,m,q,D,Pl,h1,_,hl,hm,hmm,rfl,hx⟩
 ·simp only[List.cons.injEq,and_true]at h1
  subst h1
  exact⟨[],⟨Option.none,0,rfl,Nat.le_refl _,fun j h=>by simp at h⟩,fun u h=>(by cases h),by simp⟩
 ·simp only[List.cons.injEq,and_true]at h1
  subst h1
  have hml:len≤m:=by rw[hmm];split<;>omega
  simp only[DataW.weights,ht]at hw
  rw[hc]at hx
  obtain⟨V,hV⟩:=Go.Deep.choose_lt (α:=List Value) (p:=fun i cs=>w.cells? base (a.add (i*k)) k=some cs∧DataW.trod enc P w base sp held q e cs=some (D i,Pl i)) hx
  refine⟨(List.range len).map V,⟨some a,cap,by simp,by simpa using hl,fun j hj=>?_⟩,fun u hu=>?_,?_⟩
  ·simp at hj
   obtain⟨_,h2,h3⟩:=World.cells?_some (hV j (by omega)).1
   have e1:((List.range len).map V)[j]'(by simpa using hj)=V j:=by simp
   rw[e1]
   show zaG w (a.add (j*k)) 0 k=_
   refine zfh k 0 h2 (fun i hi=>?_)
   rw[Nat.zero_add,h3 i (by omega)]
   exact List.getElem?_eq_getElem hi
  ·obtain⟨j,hj,rfl⟩:=List.mem_map.1 hu
   simp at hj
   refine⟨_,_,(hV j (by omega)).2,fun q hq=>hw q (List.mem_cons_of_mem _ (List.mem_append_left _ (zbO (d:=D j) ?_ hq)))⟩
   exact List.mem_map.2 ⟨j,by simpa using hj,rfl⟩
  ·have h1:=hw _ (List.mem_cons_self ..)
   have h2:((List.range len).map V).length*P.bytesOf e≤(((List.range len).map D).length+((List.range (m - len)).map fun j=>D (len+j)).length)*P.bytesOf e:=Nat.mul_le_mul (by simp) (Nat.le_refl _)
   omega
theorem zf3{e:TypeId}{fs:Array Field}{cs:List Value}(h:RdC enc P w base sp held e cs)(he:P.underlying e=some (.struct fs)):cs.length=P.cellsOf e∧∀(i:Nat) (f:Field),fs[i]? =some f→RdC enc P w base sp held f.type ((cs.drop f.offset).take (P.cellsOf f.type)):=by
 obtain⟨n,x,h,hw⟩:=h
 obtain⟨xs,m,_,rfl,hl,hxl,hf⟩:=DataW.trod_struct he h
 refine⟨hl,fun i f hfi=>?_⟩
 have hi:i<fs.size:=(Array.getElem?_eq_some_iff.1 hfi).1
 have h1:=hf i f hfi
 rw[List.getElem?_eq_getElem (by omega)]at h1
 refine⟨m,_,h1,fun k hk=>hw k ?_⟩
 simp only[DataW.weights,he]
 refine DataW.weights_mem_each (ts:=fs.toList.map (·.type)) (ds:=xs.map (·.1)) (j:=i) (t:=f.type) (d:=xs[i].1) ?_ ?_ k hk
 ·rw[List.getElem?_map]
  rw[show fs.toList[i]? =some f from by simpa using hfi];rfl
 ·rw[List.getElem?_map,List.getElem?_eq_getElem (by omega)];rfl
theorem zhB{t:TypeId}{k:IntKind}{cs:List Value}(h:RdC enc P w base sp held t cs)(ht:P.underlying t=some (.int k)):∃n,cs=[.int k n]∧(Lit.int k n).wf=true:=by
 obtain⟨n,x,h,_⟩:=h
 obtain⟨m,h1,_,h2⟩:=DataW.trod_int ht h
 exact⟨m,h1,h2⟩
end
def NumsD(d:DatL):Prop:=(∀n∈d.nums,0≤n∧n≤4294967295)∧ -9223372036854775808≤d.ty∧d.ty≤9223372036854775807
def ziz(r:RecL):Prop:=NumsD r.dat∧0≤r.ttl∧r.ttl≤4294967295
section
variable {H : Type} {enc : TypeId × Value → H} {P : Program} {w : World} {base : Nat} {sp : Nat → Bool} {held : Bool}
theorem zf2{t e:TypeId}{k:IntKind}{v:Value}(h:Rd enc P w base sp held t v)(ht:P.underlying t=some (.slice e))(hc:P.cellsOf e=1)(he:P.underlying e=some (.int k)):∃l:List Int,Row w v (l.map (.int k))∧∀n∈l,(Lit.int k n).wf=true:=by
 obtain⟨vals,hr,hall,_⟩:=zes h ht hc
 obtain⟨m,rfl,hm⟩:=zfE (f:=fun n=>Value.int k n) (Q:=fun n=>(Lit.int k n).wf=true) (fun u hu=>by
  obtain⟨n,h1,h2⟩:=zhB (hall u hu).c he
  exact⟨n,by simpa using h1,h2⟩)
 exact⟨m,hr,hm⟩
theorem zhe{n:Int}(h:(Lit.int .u32 n).wf=true):0≤n∧n≤4294967295:=by
 simp[Lit.wf,IntKind.min,IntKind.max,IntKind.signed,IntKind.bits]at h
 omega
theorem wf_u86{n:Int}(h:(Lit.int .u8 n).wf=true):0≤n∧n≤255:=by
 simp[Lit.wf,IntKind.min,IntKind.max,IntKind.signed,IntKind.bits]at h
 omega
theorem zim{l:List Int}(h:∀n∈l,(Lit.int .u8 n).wf=true):∃m:List UInt8,l.map (Value.int .u8)=m.map zaj:=by
 induction l with
 |nil=>exact⟨[],rfl⟩
 |cons n l ih=>
  obtain⟨m,hm⟩:=ih (fun x hx=>h x (List.mem_cons_of_mem _ hx))
  have hb:=wf_u86 (h n (List.mem_cons_self ..))
  obtain⟨k,rfl⟩:∃k:Nat,n=(k:Int):=⟨n.toNat,by omega⟩
  exact⟨UInt8.ofNat k::m,by rw[List.map_cons,List.map_cons,hm,zdr (by omega)]⟩
end
section
variable {H : Type} {enc : TypeId × Value → H} {w : World} {base : Nat} {sp : Nat → Bool} {held : Bool}
theorem wf_i64{n:Int}(h:(Lit.int .i64 n).wf=true): -9223372036854775808≤n∧n≤9223372036854775807:=by simpa [Lit.wf,IntKind.min,IntKind.max,IntKind.signed,IntKind.bits] using h
theorem rd_dataN{cs:List Value}(h:RdC enc Tryz.prog w base sp held 33 cs):∃d:DatL,DatAt w cs d∧NumsD d:=by
 obtain⟨hl,hf⟩:=zf3 h rfl
 have hl5:cs.length=5:=hl
 match cs,hl5 with
 | [c0,c1,c2,c3,c4],_=>
  obtain⟨ty,e0,et⟩:=zhB (hf 0 _ rfl) rfl
  obtain⟨names,n1,_⟩:=rd_names (P:=Tryz.prog) (ts:=24) (tb:=9) (RdC.one (hf 1 _ rfl)) rfl rfl rfl rfl rfl rfl
  obtain⟨nums,n2,n3⟩:=zf2 (RdC.one (hf 2 _ rfl)) rfl rfl rfl
  obtain⟨texts,n4,_⟩:=zet (P:=Tryz.prog) (RdC.one (hf 3 _ rfl)) (e:=9) rfl rfl rfl rfl
  obtain⟨raw,n5,n6⟩:=zf2 (RdC.one (hf 4 _ rfl)) rfl rfl rfl
  obtain⟨rb,hrb⟩:=zim n6
  rw[hrb]at n5
  have e0':c0=vi ty:=List.head_eq_of_cons_eq (show [c0]=[vi ty] from e0)
  exact⟨⟨ty,names,nums,texts,rb⟩,⟨c1,c2,c3,c4,by rw[e0'],n1,n2,n4,n5⟩,fun n hn=>zhe (n3 n hn),wf_i64 et⟩
theorem rd_recN{cs:List Value}(h:RdC enc Tryz.prog w base sp held 35 cs):∃r:RecL,RecAt w cs r∧ziz r:=by
 obtain⟨hl,hf⟩:=zf3 h rfl
 have hl7:cs.length=7:=hl
 match cs,hl7 with
 | [c0,c1,c2,c3,c4,c5,c6],_=>
  obtain⟨owner,n0,_⟩:=zet (P:=Tryz.prog) (RdC.one (hf 0 _ rfl)) (e:=9) rfl rfl rfl rfl
  obtain⟨ttl,e1,et⟩:=zhB (hf 1 _ rfl) rfl
  obtain⟨d,hd,hn⟩:=rd_dataN (hf 2 _ rfl)
  have e1':c1=v32 ttl:=List.head_eq_of_cons_eq (show [c1]=[v32 ttl] from e1)
  have hd':DatAt w [c2,c3,c4,c5,c6] d:=hd
  exact⟨⟨owner,ttl,d⟩,⟨c0,[c2,c3,c4,c5,c6],by rw[e1'],n0,hd'⟩,hn,zhe et⟩
theorem rd_recsN{v:Value}(h:Rd enc Tryz.prog w base sp held 22 v):∃R:List RecL,Rows 7 (RecAt w) w v R∧∀r∈R,ziz r:=by
 obtain⟨L,hL,hall,_⟩:=zhA h (e:=35) (k:=7) rfl rfl
 have:∀L:List (List Value),(∀cs∈L,RdC enc Tryz.prog w base sp held 35 cs)→∃R:List RecL,L.length=R.length∧(∀i (h:i<L.length) (h':i<R.length),RecAt w L[i] R[i])∧∀r∈R,ziz r:=fun L=>by
  induction L with
  |nil=>intro _;exact⟨[],rfl,fun i h=>by simp at h,fun r h=>by cases h⟩
  |cons cs L ih=>
   intro h
   obtain⟨r,h1,h2⟩:=rd_recN (h cs (List.mem_cons_self ..))
   obtain⟨R,a1,a2,a3⟩:=ih (fun x hx=>h x (List.mem_cons_of_mem _ hx))
   refine⟨r::R,by simp[a1],fun i a b=>?_,fun x hx=>?_⟩
   ·cases i with
    |zero=>exact h1
    |succ i=>exact a2 i (by simpa using a) (by simpa using b)
   ·rcases List.mem_cons.1 hx with rfl|hx
    ·exact h2
    ·exact a3 x hx
 obtain⟨R,a1,a2,a3⟩:=this L hall
 exact⟨R,⟨L,hL,a1,a2⟩,a3⟩
end
set_option maxRecDepth 10000
section
variable {α : Type} {cf : α → α → Int} {jn : α → α → α}
end
theorem zaD(w:World):ziw 7 (RecAt w):=⟨fun h=>h.len,fun h=>h.ones⟩
theorem RecAt.ttl{w:World}{cs:List Value}{r:RecL}(h:RecAt w cs r):cs[1]? =some (v32 r.ttl):=by
 obtain⟨ow,ds,rfl,_⟩:=h.ex
 rfl
theorem RecAt.cells{w0:World}{cs:List Value}{r:RecL}(h:RecAt w0 cs r):∃ow ds,cs=[ow,v32 r.ttl]++ds∧Row w0 ow (r.owner.map vs)∧DatAt w0 ds r.dat∧cs[0]? =some ow∧cs[1]? =some (v32 r.ttl)∧cs[2]? =some (vi r.dat.ty)∧cs.drop 2=ds:=by
 obtain⟨ow,ds,rfl,h1,h2⟩:=h.ex
 obtain⟨nm,nu,tx,rw',rfl,_⟩:=h2.ex
 exact⟨ow,_,rfl,h1,h2,rfl,rfl,rfl,rfl⟩
theorem findL_at{α:Type}{p:α→Bool}{l pre suf:List α}{x:α}(h:l=pre++x::suf)(hp:∀y∈pre,p y=false)(hx:p x=true):l.find? p=some x:=by
 rw[h,List.find?_append]
 have:pre.find? p=Option.none:=by
  rw[List.find?_eq_none]
  intro y hy
  rw[hp y hy];exact Bool.false_ne_true
 rw[this]
 simp[hx]
theorem zgR{α:Type}{p:α→Bool}{l:List α}(hp:∀y∈l,p y=false):l.find? p=Option.none:=by
 rw[List.find?_eq_none]
 intro y hy
 rw[hp y hy];exact Bool.false_ne_true
def errL(l:Lab):Int:=if l=[] then 8 else if 63<l.length then 3 else 0
def lenN(n:Nm):Nat:=1+(n.map fun l=>1+l.length).sum
def zaM(n:Nm):Int:=match n.find? (fun l=>decide (errL l≠0)) with
 |some l=>errL l
 |Option.none=>if 255<lenN n then 3 else 0
theorem LCheck_ok(w:World)(l:Lab)(hl:l.length≤9000000000000000000):Fn Tryz.prog 129 #[vs l] w (fun v w'=>v=vi (errL l)∧Ext w w'):=by
 refine enter Tryz.func129 Tryz.ntmps129 rfl rfl ?_
 repeat refine c_r ?_
 refine rg0 ?_
 repeat refine c_r ?_
 refine rg0 ?_
 repeat refine c_r ?_
 refine wc0 ?_ ?_
 ·intro h
  simp only[decide_eq_true_eq]at h
  repeat (first|refine c_r ?_|refine rg0 ?_)
  refine rt0 Tryz.ntmps129 ?_
  exact⟨by unfold errL;rw[if_pos h],Keep.refl _ _⟩
 intro h
 simp only[decide_eq_false_iff_not]at h
 repeat refine c_r ?_
 refine rg0 ?_
 repeat refine c_r ?_
 refine wc0 ?_ ?_
 ·intro h2
  simp only[decide_eq_true_eq]at h2
  repeat (first|refine c_r ?_|refine rg0 ?_)
  refine rt0 Tryz.ntmps129 ?_
  exact⟨by unfold errL;rw[if_neg h,if_pos (by omega)],Keep.refl _ _⟩
 ·intro h2
  simp only[decide_eq_false_iff_not]at h2
  repeat (first|refine c_r ?_|refine rg0 ?_)
  refine rt0 Tryz.ntmps129 ?_
  exact⟨by unfold errL;rw[if_neg h,if_neg (by omega)],Keep.refl _ _⟩
theorem zd6(w:World)(l:Lab)(hl:l.length≤9000000000000000000):Fn Tryz.prog 114 #[vs l] w (fun v w'=>v=vi (errL l)∧Ext w w'):=by
 refine enter Tryz.func114 Tryz.ntmps114 rfl rfl ?_
 repeat refine c_r ?_
 refine rg0 ?_
 repeat refine c_r ?_
 refine rg0 ?_
 repeat refine c_r ?_
 refine wc0 ?_ ?_
 ·intro h
  simp only[decide_eq_true_eq]at h
  repeat (first|refine c_r ?_|refine rg0 ?_)
  refine rt0 Tryz.ntmps114 ?_
  exact⟨by unfold errL;rw[if_pos h],Keep.refl _ _⟩
 intro h
 simp only[decide_eq_false_iff_not]at h
 repeat refine c_r ?_
 refine rg0 ?_
 repeat refine c_r ?_
 refine wc0 ?_ ?_
 ·intro h2
  simp only[decide_eq_true_eq]at h2
  repeat (first|refine c_r ?_|refine rg0 ?_)
  refine rt0 Tryz.ntmps114 ?_
  exact⟨by unfold errL;rw[if_neg h,if_pos (by omega)],Keep.refl _ _⟩
 ·intro h2
  simp only[decide_eq_false_iff_not]at h2
  repeat (first|refine c_r ?_|refine rg0 ?_)
  refine rt0 Tryz.ntmps114 ?_
  exact⟨by unfold errL;rw[if_neg h,if_neg (by omega)],Keep.refl _ _⟩
theorem sum_take{n:Nm}{i:Nat}(hi:i<n.length)(f:Lab→Nat):((n.take (i+1)).map f).sum=((n.take i).map f).sum+f n[i]:=by
 rw[zag hi,List.map_append,List.sum_append,List.map_cons,List.map_nil,List.sum_cons,List.sum_nil,Nat.add_zero]
theorem zeQ:∀(k:Nm),(∀l∈k,l.length≤1000000000)→(k.map fun l=>1+l.length).sum≤1000000001*k.length
 | [],_=>by simp
 |x::k,h=>by
  have h3:=zeQ k (fun l hl=>h l (List.mem_cons_of_mem _ hl))
  have h4:=h x (List.mem_cons_self ..)
  rw[List.map_cons,List.sum_cons,List.length_cons];omega
theorem RLen_ok(w:World)(nv:Value)(n:Nm)(hn:Row w nv (n.map vs))(hl:∀l∈n,l.length≤1000000000)(hnl:n.length≤1000000000):
  Fn Tryz.prog 115 #[nv] w (fun v w'=>v=vi (lenN n)∧Ext w w'):=by
 obtain⟨an,cn,rfl,hcn,hgn⟩:=hn
 simp only[List.length_map]at hcn hgn
 rw[List.length_map]
 refine enter Tryz.func115 Tryz.ntmps115 rfl rfl ?_
 repeat refine c_r ?_
 refine rg0 ?_
 repeat refine c_r ?_
 refine rg0 ?_
 repeat refine c_r ?_
 refine rg0 ?_
 repeat refine c_r ?_
 refine zas (fun m σ ds A=>ds=[]∧∃(i:Nat),i+m=n.length∧σ 4=vi i∧σ 0= .slice an n.length cn∧σ 3=vi (lenN (n.take i))∧Ext w A) n.length ?_ ?_
 ·exact⟨rfl,0,by omega,vr0,vq0,vr0,Keep.refl _ _⟩
 rintro m σ ds A ⟨rfl,i,him,h4,h0,h3,hEA⟩
 repeat refine c_r ?_
 refine rg2 h4 h0 ?_
 repeat refine c_r ?_
 refine wc0 ?_ ?_
 ·intro hlt
  simp only[decide_eq_true_eq]at hlt
  have hi:i<n.length:=by omega
  have hi0:(0:Int)≤(i:Int):=by omega
  have hi1:(i:Int)<(n.length:Int):=by omega
  have hi1':(i:Int)+1=((i+1:Nat):Int):=by push_cast;rfl
  have hg:=zaa hEA (hgn i (by simpa using hi))
  rw[List.getElem_map]at hg
  obtain⟨xn,rfl⟩:=Option.isSome_iff_exists.1 (zae hg)
  have hb:=zeQ (n.take i) (fun l hl'=>hl l (List.mem_of_mem_take hl'))
  rw[List.length_take]at hb
  have hb2:=hl n[i] (List.getElem_mem hi)
  have hs:((n.take (i+1)).map fun l=>1+l.length).sum=((n.take i).map fun l=>1+l.length).sum+(1+n[i].length):=sum_take hi _
  have hlen:((lenN (n.take i):Nat):Int)+1+((n[i]).length:Int)=((lenN (n.take (i+1)):Nat):Int):=by unfold lenN;rw[hs];omega
  have hln:lenN (n.take i)≤2000000000000000000:=by
   unfold lenN
   have:min i n.length≤1000000000:=by omega
   omega
  repeat refine c_r ?_
  refine rg7 h0 h3 h4 hi0 hi1 hg hlen ?_
  repeat refine c_r ?_
  refine rg2 h4 hi1' ?_
  repeat refine c_r ?_
  exact⟨m - 1,by omega,rfl,i+1,by omega,vq0,(vq1 h0),vq0,hEA⟩
 ·intro hge
  simp only[decide_eq_false_iff_not]at hge
  rw[List.take_of_length_le (by omega)]at h3
  repeat refine c_r ?_
  refine rg1 h3 ?_
  repeat refine c_r ?_
  refine rt1 h3 Tryz.ntmps115 ?_
  exact⟨rfl,hEA⟩
theorem zgZ{n:Nm}{i:Nat}(hi:i<n.length)(h:∀j (h:j<n.length),j<i→errL n[j]=0)(he:errL n[i]≠0):zaM n=errL n[i]:=by
 unfold zaM
 have:n.find? (fun l=>decide (errL l≠0))=some n[i]:=by
  refine findL_at (pre:=n.take i) (suf:=n.drop (i+1)) (za5 hi) (fun y hy=>?_) (by simpa using he)
  obtain⟨j,hj,rfl⟩:=List.getElem_of_mem hy
  rw[List.getElem_take]
  simp at hj
  simpa using h j (by omega) (by omega)
 rw[this]
theorem zfN{n:Nm}(h:∀j (h:j<n.length),errL n[j]=0):zaM n=if 255<lenN n then 3 else 0:=by
 unfold zaM
 have:n.find? (fun l=>decide (errL l≠0))=Option.none:=zgR (fun y hy=>by
  obtain⟨j,hj,rfl⟩:=List.getElem_of_mem hy
  simpa using h j hj)
 rw[this]
theorem zbS(w:World)(nv:Value)(n:Nm)(hn:Row w nv (n.map vs))(hl:∀l∈n,l.length≤1000000000)(hnl:n.length≤1000000000):
  Fn Tryz.prog 52 #[nv] w (fun v w'=>v=vi (zaM n)∧Ext w w'):=by
 have hn0:=hn
 obtain⟨an,cn,rfl,hcn,hgn⟩:=hn
 simp only[List.length_map]at hcn hgn hn0
 rw[List.length_map]
 refine enter Tryz.func52 Tryz.ntmps52 rfl rfl ?_
 repeat refine c_r ?_
 refine rg0 ?_
 repeat refine c_r ?_
 refine rg0 ?_
 repeat refine c_r ?_
 refine zas (fun m σ ds A=>ds=[]∧∃(i:Nat),i+m=n.length∧σ 3=vi i∧σ 0= .slice an n.length cn∧Ext w A∧∀j (h:j<n.length),j<i→errL n[j]=0) n.length ?_ ?_
 ·exact⟨rfl,0,by omega,vr0,vq0,Keep.refl _ _,fun j h hj=>absurd hj (by omega)⟩
 rintro m σ ds A ⟨rfl,i,him,h3,h0,hEA,hlow⟩
 repeat refine c_r ?_
 refine rg2 h3 h0 ?_
 repeat refine c_r ?_
 refine wc0 ?_ ?_
 ·intro hlt
  simp only[decide_eq_true_eq]at hlt
  have hi:i<n.length:=by omega
  have hi0:(0:Int)≤(i:Int):=by omega
  have hi1:(i:Int)<(n.length:Int):=by omega
  have hi1':(i:Int)+1=((i+1:Nat):Int):=by push_cast;rfl
  have hg:=zaa hEA (hgn i (by simpa using hi))
  rw[List.getElem_map]at hg
  obtain⟨xn,rfl⟩:=Option.isSome_iff_exists.1 (zae hg)
  repeat refine c_r ?_
  refine rq ?_;intro gd K hgd hK
  try simp (disch:=first|omega|assumption|rfl) only[go_sem,h0,h3,hi0,hi1,hg]
  refine Fn.mono (zd6 A n[i] (by have:=hl n[i] (List.getElem_mem hi);omega)) ?_
  rintro _ A1 ⟨rfl,hE1⟩
  try simp only[go_sem]
  refine hK _ _ ?_;clear hK hgd;clear K;try clear gd
  repeat refine c_r ?_
  refine rg0 ?_
  repeat refine c_r ?_
  refine wc0 ?_ ?_
  ·intro hne
   simp only[Bool.not_eq_true',decide_eq_false_iff_not]at hne
   repeat (first|refine c_r ?_|refine rg0 ?_)
   refine rt0 Tryz.ntmps52 ?_
   exact⟨by rw[zgZ hi hlow hne],hEA.trans hE1⟩
  ·intro heq
   simp only[Bool.not_eq_false',decide_eq_true_eq]at heq
   repeat refine c_r ?_
   refine rg2 h3 hi1' ?_
   repeat refine c_r ?_
   refine⟨m - 1,by omega,rfl,i+1,by omega,vq0,(vq1 h0),hEA.trans hE1,fun j hj hji=>?_⟩
   by_cases hj2:j=i
   ·subst hj2;exact heq
   ·exact hlow j hj (by omega)
 ·intro hge
  simp only[decide_eq_false_iff_not]at hge
  have hgood:=zfN (n:=n) (fun j hj=>hlow j hj (by omega))
  repeat refine c_r ?_
  refine rq ?_;intro gd K hgd hK
  try simp (disch:=first|omega|assumption|rfl) only[go_sem,h0]
  refine Fn.mono (RLen_ok A _ n (hn0.ext hEA) hl hnl) ?_
  rintro _ A1 ⟨rfl,hE1⟩
  try simp only[go_sem]
  refine hK _ _ ?_;clear hK hgd;clear K;try clear gd
  repeat refine c_r ?_
  refine wc0 ?_ ?_
  ·intro hb
   simp only[decide_eq_true_eq]at hb
   repeat (first|refine c_r ?_|refine rg0 ?_)
   refine rt0 Tryz.ntmps52 ?_
   exact⟨by rw[hgood,if_pos (by omega)],hEA.trans hE1⟩
  ·intro hb
   simp only[decide_eq_false_iff_not]at hb
   repeat (first|refine c_r ?_|refine rg0 ?_)
   refine rt0 Tryz.ntmps52 ?_
   exact⟨by rw[hgood,if_neg (by omega)],hEA.trans hE1⟩
theorem DatAt.cells{w0:World}{cs:List Value}{d:DatL}(h:DatAt w0 cs d):∃nm,cs[0]? =some (vi d.ty)∧cs[1]? =some nm∧NamesAt w0 nm d.names:=by
 obtain⟨nm,nu,tx,rw',rfl,h1,_⟩:=h.ex
 exact⟨nm,rfl,rfl,h1⟩
theorem zeB{w:World}{p:Option Addr}{k j:Nat}{cs:List Value}{u:Value}(h:zav w p k=some cs)(hj:cs[j]? =some u):zaf w (adr p j)=some u:=by
 obtain⟨hj1,hj2⟩:=List.getElem?_eq_some_iff.1 hj
 have:=zbK h hj1
 rw[hj2]at this;exact this
section
variable {P : Program} {d : Option Tmp} {ty : TypeId} {ps : String} {af : Array Edge} {g : Option (Nat × Bool)} {ρ : Operand → Value} {w : World} {K : Value → World → Prop}
end
theorem zf8{y:Addr}{n:Nat}(h:y.block<n):offS (zbR n) (some y):=fun a ha hb=>by
 cases ha
 unfold zbR at hb
 exact absurd (show n≤y.block from hb) (by omega)
def zgJ(n:Nm):Bool:=few n && decide (zaM n=0)
theorem zcJ{n:Nm}(h:zaM n=0):∀l∈n,l≠ []∧l.length≤63:=by
 intro l hl
 unfold zaM at h
 cases hf:n.find? (fun l=>decide (errL l≠0)) with
 |some x=>
  rw[hf]at h
  have:=List.find?_some hf
  simp only[decide_eq_true_eq]at this
  exact absurd h this
 |none=>
  have:=List.find?_eq_none.1 hf l hl
  simp only[decide_eq_true_eq,Decidable.not_not]at this
  unfold errL at this
  split at this
  ·cases this
  ·rename_i h0
   refine⟨h0,?_⟩
   split at this
   ·cases this
   ·omega
theorem sum_ge:∀n:Nm,n.length≤(n.map fun l=>1+l.length).sum
 | []=>Nat.zero_le _
 |a::n=>by
  have ih:=sum_ge n
  rw[List.map_cons,List.sum_cons]
  have e:(a::n).length=n.length+1:=rfl
  omega
theorem zgY{n:Nm}(h:zaM n=0):n.length≤255:=by
 have hl:=zcJ h
 unfold zaM at h
 split at h
 ·rename_i x hf
  have:=List.find?_some hf
  simp only[decide_eq_true_eq]at this
  exact absurd h this
 ·split at h
  ·cases h
  ·rename_i h2
   unfold lenN at h2
   have:=sum_ge n
   omega
theorem NGood_ok(w:World)(a:Value)(xs:Nm)(ha:Row w a (xs.map vs)):
  Fn Tryz.prog 15 #[a] w (fun v w'=>v= .bool (zgJ xs)∧Ext w w'):=by
 refine enter Tryz.func15 Tryz.ntmps15 rfl rfl ?_
 repeat refine c_r ?_
 refine rg0 ?_
 repeat refine c_r ?_
 cases hf:few xs with
 |true=>
  refine rq ?_;intro gd K hgd hK
  have hg2:∀n σ b,zap gd n σ (some (2,b))=zah (ev n σ (.tmp 5)) b:=(fun n σ b=>by rw[zab,show gd 2=some 5 from(by rw[hgd];rfl)];rfl)
  try simp only[go_sem]
  refine Fn.mono (zfs w a xs ha) ?_
  rintro _ w1 ⟨rfl,hE1⟩
  rw[hf]
  try simp (disch:=first|omega|assumption|rfl) only[go_sem,↓hg2]
  refine Fn.mono (zbS w1 a xs (ha.ext hE1) (fun l hl=>by
   have:=few_lb hf l hl
   simp only[few,Bool.and_eq_true,List.all_eq_true,decide_eq_true_eq]at hf
   have:=hf.2 l hl
   omega) (by have:=few_len hf;omega)) ?_
  rintro _ w2 ⟨rfl,hE2⟩
  try simp (disch:=first|omega|assumption|rfl) only[go_sem,↓hg2]
  refine hK _ _ ?_;clear hK hgd;clear K;try clear gd
  repeat refine c_r ?_
  refine rt0 Tryz.ntmps15 ?_
  refine⟨?_,hE1.trans hE2⟩
  unfold zgJ
  rw[hf,Bool.true_and]
 |false=>
  refine rq ?_;intro gd K hgd hK
  have hg2:∀n σ b,zap gd n σ (some (2,b))=zah (ev n σ (.tmp 5)) b:=(fun n σ b=>by rw[zab,show gd 2=some 5 from(by rw[hgd];rfl)];rfl)
  try simp only[go_sem]
  refine Fn.mono (zfs w a xs ha) ?_
  rintro _ w1 ⟨rfl,hE1⟩
  rw[hf]
  try simp (disch:=first|omega|assumption|rfl) only[go_sem,↓hg2]
  refine hK _ _ ?_;clear hK hgd;clear K;try clear gd
  repeat refine c_r ?_
  refine rt0 Tryz.ntmps15 ?_
  refine⟨?_,hE1⟩
  unfold zgJ
  rw[hf,Bool.false_and]
theorem ziB(w:World)(t:Int):
  Fn Tryz.prog 83 #[vi t] w (fun v w'=>w'=w∧∃a b c:Int,v= .tuple #[vi a,vi b,vi c]∧((t=2∨t=5∨t=39)→a=1)∧(t=15→b=1)):=by
 refine enter Tryz.func83 Tryz.ntmps83 rfl rfl ?_
 repeat refine c_r ?_
 refine rg0 ?_
 repeat refine c_r ?_
 refine rg0 ?_
 repeat refine c_r ?_
 refine rg0 ?_
 repeat refine c_r ?_
 refine wc0 ?_ ?_
 ·intro h1
  simp only[decide_eq_true_eq]at h1
  repeat (first|refine c_r ?_|refine rg0 ?_)
  refine zaB (.inr rfl) Tryz.ntmps83 rfl (zal (vr0) (zal (vr0) (zal (vr0) zay))) ?_
  exact⟨rfl,0,0,4,rfl,by omega,by omega⟩
 intro h1
 simp only[decide_eq_false_iff_not]at h1
 repeat refine c_r ?_
 refine rg0 ?_
 repeat refine c_r ?_
 refine wc0 ?_ ?_
 ·intro h2
  simp only[decide_eq_true_eq]at h2
  repeat (first|refine c_r ?_|refine rg0 ?_)
  refine zaB (.inr rfl) Tryz.ntmps83 rfl (zal (vr0) (zal (vr0) (zal (vr0) zay))) ?_
  exact⟨rfl,0,0,16,rfl,by omega,by omega⟩
 intro h2
 simp only[decide_eq_false_iff_not]at h2
 refine zfm ?_
 refine zaA (Q:=fun e σ' ds' v'=>e= .normal∧ds'=[]∧v'=w∧σ' 5=vi t∧∃bb,σ' 10= .bool bb∧bb=(decide (t=2)|| (decide (t=5)|| (decide (t=12)||decide (t=39))))) ?_ ?_
 ·refine zfm ?_
  refine rg0 ?_
  refine zaq ?_
  refine wc0 ?_ ?_
  ·intro h
   repeat refine c_r ?_
   exact⟨rfl,rfl,rfl,vq0,true,by simp only[go_sem];rw[h],by rw[h];rfl⟩
  intro e1
  refine zfm ?_
  refine rg0 ?_
  refine zaq ?_
  refine wc0 ?_ ?_
  ·intro h
   repeat refine c_r ?_
   exact⟨rfl,rfl,rfl,vq0,true,by simp only[go_sem];rw[h],by rw[e1,h];rfl⟩
  intro e2
  refine zfm ?_
  refine rg0 ?_
  refine zaq ?_
  refine wc0 ?_ ?_
  ·intro h
   repeat refine c_r ?_
   exact⟨rfl,rfl,rfl,vq0,true,by simp only[go_sem];rw[h],by rw[e1,e2,h];rfl⟩
  intro e3
  refine rg0 ?_
  exact⟨rfl,rfl,rfl,vq0,decide (t=39),vr0,by rw[e1,e2,e3];rfl⟩
 rintro _ σ1 _ v1 ⟨rfl,rfl,hv1,h5,bb,h10,hbb⟩
 rw[hv1]
 clear hv1 v1
 repeat refine c_r ?_
 refine zaL (t:=bb) ((vq1 h10)) ?_ ?_
 ·intro ht
  rw[ht]at hbb
  repeat (first|refine c_r ?_|refine rg0 ?_)
  refine zaB (.inr rfl) Tryz.ntmps83 rfl (zal (vr0) (zal (vr0) (zal (vr0) zay))) ?_
  refine⟨rfl,1,0,0,rfl,fun _=>rfl,fun h=>?_⟩
  subst h
  cases hbb
 intro ht
 rw[ht]at hbb
 have hno:¬(t=2∨t=5∨t=39):=by
  rintro(rfl|rfl|rfl)<;>cases hbb
 repeat refine c_r ?_
 refine rg1 h5 ?_
 repeat refine c_r ?_
 refine wc0 ?_ ?_
 ·intro h3
  repeat (first|refine c_r ?_|refine rg0 ?_)
  refine zaB (.inr rfl) Tryz.ntmps83 rfl (zal (vr0) (zal (vr0) (zal (vr0) zay))) ?_
  exact⟨rfl,1,1,0,rfl,fun _=>rfl,fun _=>rfl⟩
 intro h3
 simp only[decide_eq_false_iff_not]at h3
 repeat refine c_r ?_
 refine rg1 h5 ?_
 repeat refine c_r ?_
 refine wc0 ?_ ?_
 ·intro h4
  repeat (first|refine c_r ?_|refine rg0 ?_)
  refine zaB (.inr rfl) Tryz.ntmps83 rfl (zal (vr0) (zal (vr0) (zal (vr0) zay))) ?_
  exact⟨rfl,2,5,0,rfl,fun h=>absurd h hno,fun h=>absurd h h3⟩
 intro h4
 repeat refine c_r ?_
 refine rg1 h5 ?_
 repeat refine c_r ?_
 refine wc0 ?_ ?_
 ·intro h6
  repeat (first|refine c_r ?_|refine rg0 ?_)
  refine zaB (.inr rfl) Tryz.ntmps83 rfl (zal (vr0) (zal (vr0) (zal (vr0) zay))) ?_
  exact⟨rfl,0,0,0,rfl,fun h=>absurd h hno,fun h=>absurd h h3⟩
 intro h6
 repeat (first|refine c_r ?_|refine rg0 ?_)
 refine zaB (.inr rfl) Tryz.ntmps83 rfl (zal (vr0) (zal (vr0) (zal (vr0) zay))) ?_
 exact⟨rfl,0,0, -1,rfl,fun h=>absurd h hno,fun h=>absurd h h3⟩
theorem zbg(b:Bool):zah undef b=false:=nr rfl
structure DatF(d:DatL):Prop where
 names:∀n∈d.names,(∀l∈n,l.length≤1000000000)∧n.length≤1000000000
 nn:d.names.length≤1000000000
 nu:d.nums.length≤1000000000
 nt:d.texts.length≤1000000000
 tl:∀l∈d.texts,l.length≤1000000000
 nr:d.raw.length≤1000000000
 n8:d.names.length≤8
 f4:d.nums.length≤12∧d.texts.length≤40∧(∀l∈d.texts,l.length≤300)∧d.raw.length≤1100∧∀n∈d.names,few n=true
def zfF(t:Int):Prop:=t=2∨t=5∨t=39
theorem zeI{w0 w:World}(hE0:Ext w0 w){cs:List Value}{d:DatL}(hd:DatAt w0 cs d)(hf:DatF d):
  Fn Tryz.prog 30 #[.agg cs.toArray] w (fun v w'=>Ext w w'∧∃e:Int,v=vi e∧(e=0→(∀n∈d.names,zaM n=0)∧(zfF d.ty→d.names.length=1))):=by
 obtain⟨nm,nu,tx,rw',rfl,⟨vals,⟨an,cn,rfl,hcn,hgn⟩,hvl,hvr⟩,⟨au,cu,rfl,hcu,hgu⟩,⟨at1,ct,rfl,hct,hgt⟩,⟨ar,cr,rfl,hcr,hgr⟩⟩:=hd.ex
 simp only[List.length_map]at hcu hgu hct hgt hcr hgr
 simp only[List.length_map]
 obtain⟨L,hL⟩:∃L:List Value,[vi d.ty,.slice an vals.length cn,.slice au d.nums.length cu,.slice at1 d.texts.length ct,.slice ar d.raw.length cr]=L:=⟨_,rfl⟩
 refine enter Tryz.func30 Tryz.ntmps30 rfl rfl ?_
 repeat refine c_r ?_
 refine rg0 ?_
 repeat refine c_r ?_
 refine zaI ?_
 intro w1 hE1 hs1 hA
 have p0:zaf w1 (some ⟨w.heap.size,0,Option.none⟩)=some (vi d.ty):=zac hA rfl
 have p1:zaf w1 (some ⟨w.heap.size,1,Option.none⟩)=some (.slice an vals.length cn):=zac hA rfl
 have p2:zaf w1 (some ⟨w.heap.size,2,Option.none⟩)=some (.slice au d.nums.length cu):=zac hA rfl
 have p3:zaf w1 (some ⟨w.heap.size,3,Option.none⟩)=some (.slice at1 d.texts.length ct):=zac hA rfl
 have p4:zaf w1 (some ⟨w.heap.size,4,Option.none⟩)=some (.slice ar d.raw.length cr):=zac hA rfl
 have nn:=hf.nn
 have nu:=hf.nu
 have nt:=hf.nt
 have nr:=hf.nr
 have rd:∀{x},Ext w1 x→zaf x (some ⟨w.heap.size,1,Option.none⟩)=some (.slice an vals.length cn)∧zaf x (some ⟨w.heap.size,3,Option.none⟩)=some (.slice at1 d.texts.length ct)∧zaf x (some ⟨w.heap.size,0,Option.none⟩)=some (vi d.ty)∧zaf x (some ⟨w.heap.size,2,Option.none⟩)=some (.slice au d.nums.length cu)∧zaf x (some ⟨w.heap.size,4,Option.none⟩)=some (.slice ar d.raw.length cr):=
  fun hx=>⟨zaa hx p1,zaa hx p3,zaa hx p0,zaa hx p2,zaa hx p4⟩
 refine zaA (Q:=fun e σ' ds' v'=>e= .normal∧ds'=[]∧σ' 1= .pointer (some ⟨w.heap.size,0,Option.none⟩)∧v'=w1∧∃bb,σ' 17= .bool bb) ?_ ?_
 ·by_cases h1:d.ty<1
  ·refine rq ?_;intro gd K hgd hK
   have hg3:∀n σ b,zap gd n σ (some (3,b))=zah (ev n σ (.tmp 13)) b:=(fun n σ b=>by rw[zab,show gd 3=some 13 from(by rw[hgd];rfl)];rfl)
   try simp (disch:=first|omega|assumption|rfl) only[go_sem,p0,Nat.add_zero,decide_eq_true h1,↓hg3]
   refine hK _ _ ?_;clear hK hgd;clear K;try clear gd
   exact⟨rfl,rfl,vq0,rfl,_,vr0⟩
  ·refine rq ?_;intro gd K hgd hK
   have hg3:∀n σ b,zap gd n σ (some (3,b))=zah (ev n σ (.tmp 13)) b:=(fun n σ b=>by rw[zab,show gd 3=some 13 from(by rw[hgd];rfl)];rfl)
   try simp (disch:=first|omega|assumption|rfl) only[go_sem,p0,Nat.add_zero,decide_eq_false h1,↓hg3]
   refine hK _ _ ?_;clear hK hgd;clear K;try clear gd
   exact⟨rfl,rfl,vq0,rfl,_,vr0⟩
 rintro _ σ1 _ v1 ⟨rfl,rfl,h1,hv1,bb,h17⟩
 rw[hv1]
 clear hv1 v1
 repeat refine c_r ?_
 refine zaL (t:=bb) ((vq1 h17)) ?_ ?_
 ·intro _
  repeat (first|refine c_r ?_|refine rg0 ?_)
  refine rt0 Tryz.ntmps30 ?_
  exact⟨hE1,6,rfl,fun h=>by cases h⟩
 intro _
 repeat refine c_r ?_
 refine rq ?_;intro gd K hgd hK
 try simp (disch:=first|omega|assumption|rfl) only[go_sem,h1,p0,Nat.add_zero]
 refine Fn.mono (ziB w1 d.ty) ?_
 rintro _ w2 ⟨hw2,a,b,c,rfl,hca,hcb⟩
 rw[hw2]
 clear hw2 w2
 try simp only[go_sem]
 refine hK _ _ ?_;clear hK hgd;clear K;try clear gd
 repeat refine c_r ?_
 refine rg3 h1 p3 Nat.zero_add ?_
 repeat refine c_r ?_
 refine rg3 h1 p0 Nat.add_zero ?_
 repeat refine c_r ?_
 refine zaA (Q:=fun e σ' ds' v'=>e= .normal∧ds'=[]∧σ' 1= .pointer (some ⟨w.heap.size,0,Option.none⟩)∧σ' 3=vi a∧σ' 4=vi b∧σ' 5=vi c∧v'=w1∧∃bb,σ' 6= .bool bb) ?_ ?_
 ·refine wc0 ?_ ?_
  ·intro h16
   repeat refine c_r ?_
   by_cases h2:(d.texts.length:Int)≥1
   ·refine rq ?_;intro gd K hgd hK
    have hg4:∀n σ b,zap gd n σ (some (4,b))=zah (ev n σ (.tmp 36)) b:=(fun n σ b=>by rw[zab,show gd 4=some 36 from(by rw[hgd];rfl)];rfl)
    try simp (disch:=first|omega|assumption|rfl) only[go_sem,h1,p3,Nat.zero_add,decide_eq_true h2,↓hg4]
    refine hK _ _ ?_;clear hK hgd;clear K;try clear gd
    exact⟨rfl,rfl,(vq1 h1),vq0,vq0,vq0,rfl,_,vr0⟩
   ·refine rq ?_;intro gd K hgd hK
    have hg4:∀n σ b,zap gd n σ (some (4,b))=zah (ev n σ (.tmp 36)) b:=(fun n σ b=>by rw[zab,show gd 4=some 36 from(by rw[hgd];rfl)];rfl)
    try simp (disch:=first|omega|assumption|rfl) only[go_sem,h1,p3,Nat.zero_add,decide_eq_false h2,↓hg4]
    refine hK _ _ ?_;clear hK hgd;clear K;try clear gd
    exact⟨rfl,rfl,(vq1 h1),vq0,vq0,vq0,rfl,_,vr0⟩
  ·intro h16
   repeat refine c_r ?_
   exact⟨rfl,rfl,(vq1 h1),vq0,vq0,vq0,rfl,_,vr0⟩
 clear h1
 rintro _ σ2 _ v1 ⟨rfl,rfl,h1,h3,h4,h5,hv1,b6,h6⟩
 rw[hv1]
 clear hv1 v1
 repeat refine c_r ?_
 refine zaA (Q:=fun e σ' ds' v'=>e= .normal∧ds'=[]∧σ' 1= .pointer (some ⟨w.heap.size,0,Option.none⟩)∧v'=w1∧∃bb,σ' 68= .bool bb∧(bb=false→(vals.length:Int)=a∧(d.nums.length:Int)=b)) ?_ ?_
 ·by_cases hA:(vals.length:Int)=a
  rotate_left
  ·refine rq ?_;intro gd K hgd hK
   have hg5:∀n σ b,zap gd n σ (some (5,b))=zah (ev n σ (.tmp 47)) b:=(fun n σ b=>by rw[zab,show gd 5=some 47 from(by rw[hgd];rfl)];rfl);have hg12:∀n σ b,zap gd n σ (some (12,b))=zah (ev n σ (.tmp 54)) b:=(fun n σ b=>by rw[zab,show gd 12=some 54 from(by rw[hgd];rfl)];rfl);have hg15:∀n σ b,zap gd n σ (some (15,b))=zah (ev n σ (.tmp 57)) b:=(fun n σ b=>by rw[zab,show gd 15=some 57 from(by rw[hgd];rfl)];rfl);have hg23:∀n σ b,zap gd n σ (some (23,b))=zah (ev n σ (.tmp 65)) b:=(fun n σ b=>by rw[zab,show gd 23=some 65 from(by rw[hgd];rfl)];rfl)
   try simp (disch:=first|omega|assumption|rfl) only[go_sem,h1,h3,h4,h5,h6,p1,p2,p4,Nat.zero_add,decide_eq_false hA,Bool.not_true,Bool.not_false,zbg,↓hg5,↓hg12,↓hg15,↓hg23]
   refine hK _ _ ?_;clear hK hgd;clear K;try clear gd
   exact⟨rfl,rfl,(vq1 h1),rfl,_,vr0,fun h=>by cases h⟩
  by_cases hB:(d.nums.length:Int)=b
  rotate_left
  ·refine rq ?_;intro gd K hgd hK
   have hg5:∀n σ b,zap gd n σ (some (5,b))=zah (ev n σ (.tmp 47)) b:=(fun n σ b=>by rw[zab,show gd 5=some 47 from(by rw[hgd];rfl)];rfl);have hg12:∀n σ b,zap gd n σ (some (12,b))=zah (ev n σ (.tmp 54)) b:=(fun n σ b=>by rw[zab,show gd 12=some 54 from(by rw[hgd];rfl)];rfl);have hg15:∀n σ b,zap gd n σ (some (15,b))=zah (ev n σ (.tmp 57)) b:=(fun n σ b=>by rw[zab,show gd 15=some 57 from(by rw[hgd];rfl)];rfl);have hg23:∀n σ b,zap gd n σ (some (23,b))=zah (ev n σ (.tmp 65)) b:=(fun n σ b=>by rw[zab,show gd 23=some 65 from(by rw[hgd];rfl)];rfl)
   try simp (disch:=first|omega|assumption|rfl) only[go_sem,h1,h3,h4,h5,h6,p1,p2,p4,Nat.zero_add,decide_eq_true hA,decide_eq_false hB,Bool.not_true,Bool.not_false,zbg,↓hg5,↓hg12,↓hg15,↓hg23]
   refine hK _ _ ?_;clear hK hgd;clear K;try clear gd
   exact⟨rfl,rfl,(vq1 h1),rfl,_,vr0,fun h=>by cases h⟩
  by_cases hC:c≥0
  ·by_cases hD:(d.raw.length:Int)=c
   ·refine rq ?_;intro gd K hgd hK
    have hg5:∀n σ b,zap gd n σ (some (5,b))=zah (ev n σ (.tmp 47)) b:=(fun n σ b=>by rw[zab,show gd 5=some 47 from(by rw[hgd];rfl)];rfl);have hg12:∀n σ b,zap gd n σ (some (12,b))=zah (ev n σ (.tmp 54)) b:=(fun n σ b=>by rw[zab,show gd 12=some 54 from(by rw[hgd];rfl)];rfl);have hg15:∀n σ b,zap gd n σ (some (15,b))=zah (ev n σ (.tmp 57)) b:=(fun n σ b=>by rw[zab,show gd 15=some 57 from(by rw[hgd];rfl)];rfl);have hg23:∀n σ b,zap gd n σ (some (23,b))=zah (ev n σ (.tmp 65)) b:=(fun n σ b=>by rw[zab,show gd 23=some 65 from(by rw[hgd];rfl)];rfl)
    try simp (disch:=first|omega|assumption|rfl) only[go_sem,h1,h3,h4,h5,h6,p1,p2,p4,Nat.zero_add,decide_eq_true hA,decide_eq_true hB,decide_eq_true hC,decide_eq_true hD,Bool.not_true,Bool.not_false,zbg,↓hg5,↓hg12,↓hg15,↓hg23]
    refine hK _ _ ?_;clear hK hgd;clear K;try clear gd
    exact⟨rfl,rfl,(vq1 h1),rfl,_,vr0,fun _=>⟨hA,hB⟩⟩
   ·refine rq ?_;intro gd K hgd hK
    have hg5:∀n σ b,zap gd n σ (some (5,b))=zah (ev n σ (.tmp 47)) b:=(fun n σ b=>by rw[zab,show gd 5=some 47 from(by rw[hgd];rfl)];rfl);have hg12:∀n σ b,zap gd n σ (some (12,b))=zah (ev n σ (.tmp 54)) b:=(fun n σ b=>by rw[zab,show gd 12=some 54 from(by rw[hgd];rfl)];rfl);have hg15:∀n σ b,zap gd n σ (some (15,b))=zah (ev n σ (.tmp 57)) b:=(fun n σ b=>by rw[zab,show gd 15=some 57 from(by rw[hgd];rfl)];rfl);have hg23:∀n σ b,zap gd n σ (some (23,b))=zah (ev n σ (.tmp 65)) b:=(fun n σ b=>by rw[zab,show gd 23=some 65 from(by rw[hgd];rfl)];rfl)
    try simp (disch:=first|omega|assumption|rfl) only[go_sem,h1,h3,h4,h5,h6,p1,p2,p4,Nat.zero_add,decide_eq_true hA,decide_eq_true hB,decide_eq_true hC,decide_eq_false hD,Bool.not_true,Bool.not_false,zbg,↓hg5,↓hg12,↓hg15,↓hg23]
    refine hK _ _ ?_;clear hK hgd;clear K;try clear gd
    exact⟨rfl,rfl,(vq1 h1),rfl,_,vr0,fun h=>by cases h⟩
  ·refine rq ?_;intro gd K hgd hK
   have hg5:∀n σ b,zap gd n σ (some (5,b))=zah (ev n σ (.tmp 47)) b:=(fun n σ b=>by rw[zab,show gd 5=some 47 from(by rw[hgd];rfl)];rfl);have hg12:∀n σ b,zap gd n σ (some (12,b))=zah (ev n σ (.tmp 54)) b:=(fun n σ b=>by rw[zab,show gd 12=some 54 from(by rw[hgd];rfl)];rfl);have hg15:∀n σ b,zap gd n σ (some (15,b))=zah (ev n σ (.tmp 57)) b:=(fun n σ b=>by rw[zab,show gd 15=some 57 from(by rw[hgd];rfl)];rfl);have hg23:∀n σ b,zap gd n σ (some (23,b))=zah (ev n σ (.tmp 65)) b:=(fun n σ b=>by rw[zab,show gd 23=some 65 from(by rw[hgd];rfl)];rfl)
   try simp (disch:=first|omega|assumption|rfl) only[go_sem,h1,h3,h4,h5,h6,p1,p2,p4,Nat.zero_add,decide_eq_true hA,decide_eq_true hB,decide_eq_false hC,Bool.not_true,Bool.not_false,zbg,↓hg5,↓hg12,↓hg15,↓hg23]
   refine hK _ _ ?_;clear hK hgd;clear K;try clear gd
   exact⟨rfl,rfl,(vq1 h1),rfl,_,vr0,fun _=>⟨hA,hB⟩⟩
 clear h1 h3 h4 h5 h6
 rintro _ σ3 _ v1 ⟨rfl,rfl,h1,hv1,b7,h68,hb7⟩
 rw[hv1]
 clear hv1 v1
 repeat refine c_r ?_
 refine zaL (t:=b7) ((vq1 h68)) ?_ ?_
 ·intro _
  repeat (first|refine c_r ?_|refine rg0 ?_)
  refine rt0 Tryz.ntmps30 ?_
  exact⟨hE1,2,rfl,fun h=>by cases h⟩
 intro hb
 obtain⟨hA,hB⟩:=hb7 hb
 have hlead:zfF d.ty→d.names.length=1:=fun h=>by have:=hca h;omega
 repeat refine c_r ?_
 refine rg0 ?_
 repeat refine c_r ?_
 refine zaA (Q:=fun e σ' ds' v'=>ds'=[]∧Ext w1 v'∧((e= .exit 0∧σ' 1= .pointer (some ⟨w.heap.size,0,Option.none⟩)∧∀n∈d.names,zaM n=0)∨(e= .ret∧∃e2:Int,e2≠0∧σ' 2=vi e2))) ?_ ?_
 ·refine zas (fun m σ ds A=>ds=[]∧∃(i:Nat),i+m=vals.length∧σ 7=vi i∧σ 1= .pointer (some ⟨w.heap.size,0,Option.none⟩)∧Ext w1 A∧∀j (h:j<d.names.length),j<i→zaM d.names[j]=0) vals.length ?_ ?_
  ·exact⟨rfl,0,by omega,vr0,(vq1 h1),Keep.refl _ _,fun j h hj=>absurd hj (by omega)⟩
  clear h1
  rintro m σ ds A ⟨rfl,i,him,h7,h1,hEA,hlow⟩
  obtain⟨q1,q3,q0,q2,q4⟩:=rd hEA
  repeat refine c_r ?_
  refine rg4 h7 h1 q1 Nat.zero_add ?_
  repeat refine c_r ?_
  refine wc0 ?_ ?_
  ·intro hlt
   simp only[decide_eq_true_eq]at hlt
   have hi:i<vals.length:=by omega
   have hi0:(0:Int)≤(i:Int):=by omega
   have hi1:(i:Int)<(vals.length:Int):=by omega
   have hi1':(i:Int)+1=((i+1:Nat):Int):=by push_cast;rfl
   have hgi:=hgn i hi
   obtain⟨xN,rfl⟩:=Option.isSome_iff_exists.1 (zae hgi)
   have hgi':=zaa (hE0.trans (hE1.trans hEA)) hgi
   have hrow:=hvr i hi (by omega)
   obtain⟨n,hn⟩:∃n,d.names[i]'(by omega)=n:=⟨_,rfl⟩
   rw[hn]at hrow
   have hnf:=hf.names n (hn▸List.getElem_mem _)
   obtain⟨hv,hhv⟩:∃hv,vals[i]=hv:=⟨_,rfl⟩
   rw[hhv]at hgi' hrow
   repeat refine c_r ?_
   refine rq ?_;intro gd K hgd hK
   try simp (disch:=first|omega|assumption|rfl) only[go_sem,h7,h1,q1,Nat.zero_add,hi0,hi1,hgi']
   refine Fn.mono (zbS A hv n (hrow.ext (hE0.trans (hE1.trans hEA))) hnf.1 hnf.2) ?_
   rintro _ A2 ⟨rfl,hA2⟩
   try simp only[go_sem]
   refine hK _ _ ?_;clear hK hgd;clear K;try clear gd
   repeat refine c_r ?_
   refine rg0 ?_
   repeat refine c_r ?_
   by_cases h0:zaM n=0
   ·rw[h0]
    refine zaL (t:=false) (vr0) (fun h=>by cases h) ?_
    intro _
    repeat refine c_r ?_
    refine rg2 h7 hi1' ?_
    repeat refine c_r ?_
    refine⟨m - 1,by omega,rfl,i+1,by omega,vq0,(vq1 h1),hEA.trans hA2,fun j hj hji=>?_⟩
    by_cases hj2:j=i
    ·subst hj2;rw[hn];exact h0
    ·exact hlow j hj (by omega)
   ·refine zaL (t:=!decide (zaM n=0)) (vr0) ?_ (fun h=>by rw[decide_eq_false h0]at h;cases h)
    intro _
    repeat refine c_r ?_
    refine rg0 ?_
    repeat refine c_r ?_
    exact⟨rfl,hEA.trans hA2,.inr ⟨rfl,zaM n,h0,vq0⟩⟩
  ·intro hge
   simp only[decide_eq_false_iff_not]at hge
   repeat refine c_r ?_
   refine⟨rfl,hEA,.inl ⟨rfl,(vq1 h1),fun n hn=>?_⟩⟩
   obtain⟨j,hj,rfl⟩:=List.getElem_of_mem hn
   exact hlow j hj (by omega)
 clear h1
 rintro e σ4 _ A ⟨rfl,hEA,⟨rfl,h1,hall⟩| ⟨rfl,e2,he2,h2⟩⟩
 rotate_left
 ·repeat refine c_r ?_
  refine rt1 h2 Tryz.ntmps30 ?_
  exact⟨hE1.trans hEA,e2,rfl,fun h=>absurd h he2⟩
 have fin:∀e:Int,e=0→(∀n∈d.names,zaM n=0)∧(zfF d.ty→d.names.length=1):=fun e _=>⟨hall,hlead⟩
 obtain⟨q1,q3,q0,q2,q4⟩:=rd hEA
 repeat refine c_r ?_
 have hvl0:(d.names.length:Int)=a:=by omega
 refine zaA (Q:=fun e σ' ds' v'=>e= .normal∧ds'=[]∧σ' 1= .pointer (some ⟨w.heap.size,0,Option.none⟩)∧v'=A∧∃bb,σ' 94= .bool bb) ?_ ?_
 ·by_cases h15:d.ty=15
  ·have hb1:=hcb h15
   have hnu1:(0:Int)<(d.nums.length:Int):=by omega
   have hz0:(0:Int)≤0:=by omega
   have hg0:=hgu 0 (by omega)
   obtain⟨xU,rfl⟩:=Option.isSome_iff_exists.1 (zae hg0)
   rw[zaH]at hg0
   have hg0':=zaa (hE0.trans (hE1.trans hEA)) hg0
   rw[List.getElem_map]at hg0'
   refine rq ?_;intro gd K hgd hK
   have hg3:∀n σ b,zap gd n σ (some (3,b))=zah (ev n σ (.tmp 88)) b:=(fun n σ b=>by rw[zab,show gd 3=some 88 from(by rw[hgd];rfl)];rfl)
   try simp (disch:=first|omega|assumption|rfl) only[go_sem,h1,q0,q2,Nat.add_zero,Nat.zero_add,decide_eq_true h15,hnu1,hz0,hg0',Nat.zero_mul,zaH,Int.toNat_zero,↓hg3]
   refine hK _ _ ?_;clear hK hgd;clear K;try clear gd
   exact⟨rfl,rfl,(vq1 h1),rfl,_,vr0⟩
  ·refine rq ?_;intro gd K hgd hK
   have hg3:∀n σ b,zap gd n σ (some (3,b))=zah (ev n σ (.tmp 88)) b:=(fun n σ b=>by rw[zab,show gd 3=some 88 from(by rw[hgd];rfl)];rfl)
   try simp (disch:=first|omega|assumption|rfl) only[go_sem,h1,q0,Nat.add_zero,decide_eq_false h15,↓hg3]
   refine hK _ _ ?_;clear hK hgd;clear K;try clear gd
   exact⟨rfl,rfl,(vq1 h1),rfl,_,vr0⟩
 clear h1
 rintro _ σ5 _ v1 ⟨rfl,rfl,h1,hv1,b94,h94⟩
 rw[hv1]
 clear hv1 v1
 repeat refine c_r ?_
 refine zaL (t:=b94) ((vq1 h94)) ?_ ?_
 ·intro _
  repeat (first|refine c_r ?_|refine rg0 ?_)
  refine rt0 Tryz.ntmps30 ?_
  exact⟨hE1.trans hEA,7,rfl,fun h=>by cases h⟩
 intro _
 repeat refine c_r ?_
 refine rg0 ?_
 repeat refine c_r ?_
 refine zaA (Q:=fun e σ' ds' v'=>ds'=[]∧v'=A∧((e= .exit 2∧σ' 1= .pointer (some ⟨w.heap.size,0,Option.none⟩))∨(e= .ret∧σ' 2=vi 3))) ?_ ?_
 ·refine zas (fun m σ ds B=>ds=[]∧∃(i:Nat),i+m=d.texts.length∧σ 9=vi i∧σ 1= .pointer (some ⟨w.heap.size,0,Option.none⟩)∧B=A) d.texts.length ?_ ?_
  ·exact⟨rfl,0,by omega,vr0,(vq1 h1),rfl⟩
  clear h1
  rintro m σ ds B ⟨rfl,i,him,h9,h1,hB2⟩
  rw[hB2]
  clear hB2 B
  repeat refine c_r ?_
  refine rg4 h9 h1 q3 Nat.zero_add ?_
  repeat refine c_r ?_
  refine wc0 ?_ ?_
  ·intro hlt
   simp only[decide_eq_true_eq]at hlt
   have hi:i<d.texts.length:=by omega
   have hi0:(0:Int)≤(i:Int):=by omega
   have hi1:(i:Int)<(d.texts.length:Int):=by omega
   have hi1':(i:Int)+1=((i+1:Nat):Int):=by push_cast;rfl
   have hgi:=hgt i hi
   obtain⟨xT,rfl⟩:=Option.isSome_iff_exists.1 (zae hgi)
   have hgi':=zaa (hE0.trans (hE1.trans hEA)) hgi
   rw[List.getElem_map]at hgi'
   have htl:=hf.tl _ (List.getElem_mem hi)
   repeat refine c_r ?_
   refine rg7 h9 h1 q3 Nat.zero_add hi0 hi1 hgi' ?_
   repeat refine c_r ?_
   refine wc0 ?_ ?_
   ·intro hgt2
    repeat refine c_r ?_
    refine rg0 ?_
    repeat refine c_r ?_
    exact⟨rfl,rfl,.inr ⟨rfl,vq0⟩⟩
   ·intro hgt2
    repeat refine c_r ?_
    refine rg2 h9 hi1' ?_
    repeat refine c_r ?_
    exact⟨m - 1,by omega,rfl,i+1,by omega,vq0,(vq1 h1),rfl⟩
  ·intro hge
   repeat refine c_r ?_
   exact⟨rfl,rfl,.inl ⟨rfl,(vq1 h1)⟩⟩
 clear h1
 rintro e σ6 _ v1 ⟨rfl,hv1,⟨rfl,h1⟩| ⟨rfl,h2⟩⟩
 rotate_left
 ·rw[hv1]
  repeat refine c_r ?_
  refine rt1 h2 Tryz.ntmps30 ?_
  exact⟨hE1.trans hEA,3,rfl,fun h=>by cases h⟩
 rw[hv1]
 clear hv1 v1
 repeat refine c_r ?_
 refine rg3 h1 q4 Nat.zero_add ?_
 repeat refine c_r ?_
 refine wc0 ?_ ?_
 ·intro _
  repeat (first|refine c_r ?_|refine rg0 ?_)
  refine rt0 Tryz.ntmps30 ?_
  exact⟨hE1.trans hEA,3,rfl,fun h=>by cases h⟩
 intro _
 repeat (first|refine c_r ?_|refine rg0 ?_)
 refine rt0 Tryz.ntmps30 ?_
 exact⟨hE1.trans hEA,0,rfl,fin 0⟩
structure DatX(w0:World)(B:Nat)(A:World)(nm:Value)(cs:List Value)(d:DatL):Prop where
 ex:∃nu tx rw vals,cs=[vi d.ty,nm,nu,tx,rw]∧Row A nm vals∧vals.length=d.names.length∧(∀i (h:i<vals.length) (h':i<d.names.length),Row w0 vals[i] (d.names[i].map vs))∧Row w0 nu (d.nums.map v32)∧Row w0 tx (d.texts.map vs)∧Row w0 rw (d.raw.map zaj)
 blk:BlkB B A nm
theorem DatX.at{w0 A:World}{B:Nat}{nm:Value}{cs:List Value}{d:DatL}(h:DatX w0 B A nm cs d)(hE:Ext w0 A):DatAt A cs d:=by
 obtain⟨nu,tx,rw,vals,e,h1,h2,h3,h4,h5,h6⟩:=h.ex
 exact⟨nm,nu,tx,rw,e,⟨vals,h1,h2,fun i a b=>(h3 i a b).ext hE⟩,h4.ext hE,h5.ext hE,h6.ext hE⟩
theorem DatX.keep{w0 A x:World}{B:Nat}{nm:Value}{cs:List Value}{d:DatL}(h:DatX w0 B A nm cs d){S:Nat→Prop}(hk:Keep S A x)(hS:∀a n c,nm= .slice (some a) n c→¬S a.block):DatX w0 B x nm cs d:=by
 obtain⟨nu,tx,rw,vals,e,h1,h2,h3,h4,h5,h6⟩:=h.ex
 exact⟨⟨nu,tx,rw,vals,e,h1.blocks fun a n c hv=>hk.block _ (h.blk a n c hv).2 (hS a n c hv),h2,h3,h4,h5,h6⟩,h.blk.ext hk.size⟩
theorem DatX.mono{w0 A:World}{B B':Nat}{nm:Value}{cs:List Value}{d:DatL}(h:DatX w0 B A nm cs d)(hB:B'≤B):DatX w0 B' A nm cs d:=⟨h.ex,h.blk.mono hB⟩
theorem DOf_ok{w0 w:World}(hE0:Ext w0 w){cs:List Value}{d:DatL}(hd:DatAt w0 cs d)(hnn:d.names.length≤1000000000):
  Fn Tryz.prog 31 #[.agg cs.toArray] w (fun v w'=>Ext w w'∧∃cs' nm,v= .agg cs'.toArray∧DatX w0 w.heap.size w' nm cs' d):=by
 obtain⟨nm,nu,tx,rw',rfl,⟨vals,⟨an,cn,rfl,hcn,hgn⟩,hvl,hvr⟩,hnu,htx,hrw⟩:=hd.ex
 obtain⟨au,cu,rfl,_⟩:=id hnu
 obtain⟨at1,ct,rfl,_⟩:=id htx
 obtain⟨ar,cr,rfl,_⟩:=id hrw
 refine enter Tryz.func31 Tryz.ntmps31 rfl rfl ?_
 repeat refine c_r ?_
 refine rg0 ?_
 repeat refine c_r ?_
 rw[zat]
 refine zdt ?_
 intro w1 hE1 hs1 hA hC
 have p0:zaf w1 (some ⟨w.heap.size,0,Option.none⟩)=some (vi d.ty):=zac hA rfl
 have p1:zaf w1 (some ⟨w.heap.size,1,Option.none⟩)=some (.slice an vals.length cn):=zac hA rfl
 have p2:zaf w1 (some ⟨w.heap.size,2,Option.none⟩)=some (.slice au (d.nums.map v32).length cu):=zac hA rfl
 have p3:zaf w1 (some ⟨w.heap.size,3,Option.none⟩)=some (.slice at1 (d.texts.map vs).length ct):=zac hA rfl
 have p4:zaf w1 (some ⟨w.heap.size,4,Option.none⟩)=some (.slice ar (d.raw.map zaj).length cr):=zac hA rfl
 refine rq ?_;intro gd K hgd hK
 try simp (disch:=first|omega|assumption|rfl) only[go_sem,p0,p2,p3,p4,Nat.add_zero,Nat.zero_add]
 refine⟨by kernel_rfl,?_⟩
 rw[show bdV Tryz.prog 67 [(0,vi d.ty),(2,.slice au (d.nums.map v32).length cu),(3,.slice at1 (d.texts.map vs).length ct),(4,.slice ar (d.raw.map zaj).length cr)]=some (.agg #[vi d.ty,.slice Option.none 0 0,.slice au (d.nums.map v32).length cu,.slice at1 (d.texts.map vs).length ct,.slice ar (d.raw.map zaj).length cr]) from by kernel_rfl]
 try simp only[go_sem]
 have hB3:=zak w1 (.cells #[vi 0,.slice Option.none 0 0,.slice Option.none 0 0,.slice Option.none 0 0,.slice Option.none 0 0] 67 (0,0))
 have hE4:=Ext.alloc w1 (.cells #[vi 0,.slice Option.none 0 0,.slice Option.none 0 0,.slice Option.none 0 0,.slice Option.none 0 0] 67 (0,0))
 have hs4:=zat w1 (.cells #[vi 0,.slice Option.none 0 0,.slice Option.none 0 0,.slice Option.none 0 0,.slice Option.none 0 0] 67 (0,0))
 revert hB3 hE4 hs4
 generalize w1.alloc (.cells #[vi 0,.slice Option.none 0 0,.slice Option.none 0 0,.slice Option.none 0 0,.slice Option.none 0 0] 67 (0,0))=w2
 intro hB3 hE4 hs4
 refine zfY (P:=Tryz.prog) (t:=67) (l:=[vi d.ty,.slice Option.none 0 0,.slice au (d.nums.map v32).length cu,.slice at1 (d.texts.map vs).length ct,.slice ar (d.raw.map zaj).length cr]) hB3 rfl (fun v h=>by simp at h;rcases h with rfl|rfl|rfl|rfl|rfl<;>rfl) rfl rfl ?_
 intro w3 hs5 hB5 hk5
 try simp only[go_sem]
 refine hK _ _ ?_;clear hK hgd;clear K;try clear gd
 have hE13:Ext w1 w3:=Keep.to_ext hE4 rfl (fun b hb=>by omega) hk5
 obtain⟨b3,hb3⟩:∃b3,w1.heap.size=b3:=⟨_,rfl⟩
 rw[hb3]at hB5
 have hs3:w3.heap.size=b3+1:=by omega
 repeat refine c_r ?_
 refine rg0 ?_
 repeat refine c_r ?_
 rw[hb3]
 refine zas (fun m σ ds A=>ds=[]∧∃(i:Nat) (nv:Value),i+m=vals.length∧σ 4=vi i∧σ 1= .pointer (some ⟨w.heap.size,0,Option.none⟩)∧σ 2= .pointer (some ⟨w.heap.size+1,0,Option.none⟩)∧σ 3= .pointer (some ⟨b3,0,Option.none⟩)∧A.heap[b3]? =some (.cells [vi d.ty,nv,.slice au (d.nums.map v32).length cu,.slice at1 (d.texts.map vs).length ct,.slice ar (d.raw.map zaj).length cr].toArray 67 (0,0))∧Own w3.heap.size A 23 nv (vals.take i)∧Ext w1 A∧w3.heap.size≤A.heap.size) vals.length ?_ ?_
 ·exact⟨rfl,0,.slice Option.none 0 0,by omega,vr0,vq0,vq0,vq0,hB5,Own.nil _ _ _,hE13,Nat.le_refl _⟩
 rintro m σ ds A ⟨rfl,i,nv,him,h4,h1,h2,h3,hb,hown,hEA,hsA⟩
 have q1:=zaa hEA p1
 have s1:=hE1.size
 repeat refine c_r ?_
 refine rg4 h4 h1 q1 Nat.zero_add ?_
 repeat refine c_r ?_
 refine wc0 ?_ ?_
 ·intro hlt
  simp only[decide_eq_true_eq]at hlt
  have hi:i<vals.length:=by omega
  have hi0:(0:Int)≤(i:Int):=by omega
  have hi1:(i:Int)<(vals.length:Int):=by omega
  have hi1':(i:Int)+1=((i+1:Nat):Int):=by push_cast;rfl
  have hgi:=hgn i hi
  obtain⟨xN,rfl⟩:=Option.isSome_iff_exists.1 (zae hgi)
  obtain⟨xi,hxi⟩:∃xi,adr (some xN) i=some xi:=⟨_,rfl⟩
  rw[hxi]at hgi
  have hgA:=zaa (hE0.trans (hE1.trans hEA)) hgi
  have hxb:xi.block<w3.heap.size:=by
   have:=zc4 (show w0.cell? xi=some _ from hgi)
   have:=(hE0.trans (hE1.trans hE13)).size
   omega
  have hrow:=hvr i hi (by omega)
  obtain⟨hv,hhv⟩:∃hv,vals[i]=hv:=⟨_,rfl⟩
  rw[hhv]at hgA hrow
  obtain⟨ha,hc,hve,_⟩:=id hrow
  have hone:one hv=true:=by rw[hve];rfl
  have htk:vals.take (i+1)=vals.take i++ [hv]:=by rw[zag hi,hhv]
  have hnv:zaf A (some ⟨b3,1,Option.none⟩)=some nv:=zbF hb rfl
  have hvals:(vals.take i).length≤1000000000:=by rw[List.length_take];omega
  repeat refine c_r ?_
  refine zaK (fun i=>i==10) [(0,true),(1,true),(2,true),(3,true),(4,true),(5,true),(6,true),(7,false),(8,false),(9,true),(10,false)] (zbR w3.heap.size) mixed (by kernel_rfl) ?_;intro gd K x hgd hx hxe hK;have hx0:=zbc hxe;clear hxe
  have hgx:=zaa hx0 hgA
  have hnx:=zaa hx0 hnv
  have q1x:=zaa hx0 q1
  have hxs:=hx.size
  simp (disch:=first|omega|assumption|rfl) only[go_sem,h4,h1,h3,q1x,hgx,hnx,hi0,hi1,hxi,Nat.zero_add,Nat.mul_one]
  refine⟨zaU (by omega),zaU (by omega),zf8 hxb,?_⟩
  refine zbM (z:= .slice Option.none 0 0) (v:=hv) (by rfl) (by rfl) (by rfl) (by rfl) (by rw[hve];rfl) ?_
  intro w5 hE5 hs5 ho5
  refine⟨.inr hE5.keep,?_⟩
  simp (disch:=first|omega|assumption|rfl) only[go_sem]
  have hx5:=hx0.trans hE5
  have hx5s:=hx5.size
  refine zbr (hown.ext hx5) ho5.row rfl rfl rfl rfl rfl rfl (vr0) (vr0) (fun q hq=>by rw[List.mem_singleton.1 hq];exact hone) (by rw[List.length_singleton];omega) (by decide) (by omega) ?_
  intro v7 w7 ho7 hE7 hk7 hb7
  refine⟨.inr (hk7.mono fun b _ hb=>by have:=(hown.ge hb).1;show _≤_;omega),?_⟩
  simp (disch:=first|omega|assumption|rfl) only[go_sem,h3]
  have hk7s:=hk7.size
  obtain⟨a7,c7,hv7⟩:=ho7.slice
  have hb3w:w7.heap[b3]? =some (.cells [vi d.ty,nv,.slice au (d.nums.map v32).length cu,.slice at1 (d.texts.map vs).length ct,.slice ar (d.raw.map zaj).length cr].toArray 67 (0,0)):=(hk7.block b3 (by omega) (fun h=>by have:=(hown.ge h).1;omega)).trans (Ext.at hx5 hb)
  refine zen (P:=Tryz.prog) (t:=65) (j:=1) (l:=[vi d.ty,nv,.slice au (d.nums.map v32).length cu,.slice at1 (d.texts.map vs).length ct,.slice ar (d.raw.map zaj).length cr]) hb3w (by simp) (by rw[hv7];rfl) rfl rfl ?_
  intro z hz' hbz hkz
  refine⟨.inl rfl,?_⟩
  simp (disch:=first|omega|assumption|rfl) only[go_sem]
  refine hK _ _ ?_;clear hK hgd;clear K;try clear gd
  have hEz:Ext w1 z:=Keep.to_ext (hE7 w1 (hEA.trans hx5) (by omega)) rfl (fun b hb=>by omega) hkz
  repeat refine c_r ?_
  refine rg2 h4 hi1' ?_
  repeat refine c_r ?_
  exact⟨m - 1,by omega,rfl,i+1,v7,by omega,vq0,(vq1 h1),(vq1 h2),(vq1 h3),hbz,by rw[htk];exact ho7.keep hkz (fun b hb h=>by have:=(ho7.ge hb).1;omega),hEz,by omega⟩
 ·intro hge
  simp only[decide_eq_false_iff_not]at hge
  have hi:i=vals.length:=by omega
  rw[hi,List.take_length]at hown
  obtain⟨na,nc,hnv⟩:=hown.slice
  repeat refine c_r ?_
  refine rq ?_;intro gd K hgd hK
  have d5:=za4 (n:=5) hb rfl
  try simp (disch:=first|omega|assumption|rfl) only[go_sem,h3,h2,d5]
  refine zfY (P:=Tryz.prog) (t:=67) (l:=[vi d.ty,nv,.slice au (d.nums.map v32).length cu,.slice at1 (d.texts.map vs).length ct,.slice ar (d.raw.map zaj).length cr]) (Ext.at hEA hC) rfl (fun v h=>by
   simp at h
   rcases h with rfl|rfl|rfl|rfl|rfl
   ·rfl
   ·rw[hnv];rfl
   ·rfl
   ·rfl
   ·rfl) rfl rfl ?_
  intro z hz' hbz hkz
  try simp only[go_sem]
  refine hK _ _ ?_;clear hK hgd;clear K;try clear gd
  repeat refine c_r ?_
  refine zaB (.inr rfl) Tryz.ntmps31 rfl (zhx (x:=⟨w.heap.size+1,0,Option.none⟩) (k:=5) ((vq1 h2)) rfl rfl (za4 hbz rfl) zay) ?_
  have hEz:Ext w z:=Keep.to_ext (hE1.trans hEA) rfl (fun b hb=>by omega) hkz
  have hownz:=hown.keep hkz (fun b hb h=>by have:=(hown.ge hb).1;omega)
  refine⟨hEz,_,nv,rfl,⟨⟨_,_,_,vals,rfl,hownz.row,hvl,hvr,hnu,htx,hrw⟩,fun a n c hv=>?_⟩⟩
  have:=hownz.ge (b:=a.block) (by rw[hv];rfl)
  omega
theorem DatAt.open{w:World}{cs:List Value}{d:DatL}(h:DatAt w cs d):∃a1 n1 c1 a2 n2 c2 a3 n3 c3 a4 n4 c4,cs=[vi d.ty,.slice a1 n1 c1,.slice a2 n2 c2,.slice a3 n3 c3,.slice a4 n4 c4]:=by
 obtain⟨nm,nu,tx,rw',rfl,⟨vals,⟨an,cn,rfl,_⟩,_⟩,⟨au,cu,rfl,_⟩,⟨at1,ct,rfl,_⟩,⟨ar,cr,rfl,_⟩⟩:=h.ex
 exact⟨_,_,_,_,_,_,_,_,_,_,_,_,rfl⟩
theorem DatX.open{w0 A:World}{B:Nat}{nm:Value}{cs:List Value}{d:DatL}(h:DatX w0 B A nm cs d):∃a1 n1 c1 a2 n2 c2 a3 n3 c3 a4 n4 c4,cs=[vi d.ty,.slice a1 n1 c1,.slice a2 n2 c2,.slice a3 n3 c3,.slice a4 n4 c4]:=by
 obtain⟨nu,tx,rw,vals,e,⟨a1,c1,rfl,_⟩,h2,h3,⟨a4,c4,rfl,_⟩,⟨a5,c5,rfl,_⟩,⟨a6,c6,rfl,_⟩⟩:=h.ex
 exact⟨_,_,_,_,_,_,_,_,_,_,_,_,e⟩
structure RecX(w0:World)(B:Nat)(A:World)(nm:Value)(cs:List Value)(r:RecL):Prop where
 ex:∃ow ds,cs=ow::v32 r.ttl::ds∧Row w0 ow (r.owner.map vs)∧DatX w0 B A nm ds r.dat
theorem RecX.at{w0 A:World}{B:Nat}{nm:Value}{cs:List Value}{r:RecL}(h:RecX w0 B A nm cs r)(hE:Ext w0 A):RecAt A cs r:=by
 obtain⟨ow,ds,e,h1,h2⟩:=h.ex
 exact⟨ow,ds,e,h1.ext hE,h2.at hE⟩
theorem RecX.keep{w0 A x:World}{B:Nat}{nm:Value}{cs:List Value}{r:RecL}(h:RecX w0 B A nm cs r){S:Nat→Prop}(hk:Keep S A x)(hS:∀a n c,nm= .slice (some a) n c→¬S a.block):RecX w0 B x nm cs r:=by
 obtain⟨ow,ds,e,h1,h2⟩:=h.ex
 exact⟨ow,ds,e,h1,h2.keep hk hS⟩
theorem RecX.mono{w0 A:World}{B B':Nat}{nm:Value}{cs:List Value}{r:RecL}(h:RecX w0 B A nm cs r)(hB:B'≤B):RecX w0 B' A nm cs r:=by
 obtain⟨ow,ds,e,h1,h2⟩:=h.ex
 exact⟨ow,ds,e,h1,h2.mono hB⟩
theorem RecX.blk{w0 A:World}{B:Nat}{nm:Value}{cs:List Value}{r:RecL}(h:RecX w0 B A nm cs r):BlkB B A nm:=by
 obtain⟨ow,ds,e,h1,h2⟩:=h.ex
 exact h2.blk
theorem RcOf_ok{w0 w:World}(hE0:Ext w0 w){cs:List Value}{r:RecL}(hr:RecAt w0 cs r)(hnn:r.dat.names.length≤1000000000):
  Fn Tryz.prog 50 #[.agg cs.toArray] w (fun v w'=>Ext w w'∧∃cs' nm,v= .agg cs'.toArray∧RecX w0 w.heap.size w' nm cs' r):=by
 obtain⟨ow,ds,rfl,h1,h2⟩:=hr.ex
 obtain⟨oa,oc,how,_⟩:=id h1
 obtain⟨on,hon⟩:∃on,(r.owner.map vs).length=on:=⟨_,rfl⟩
 rw[hon]at how
 obtain⟨b1,m1,e1,b2,m2,e2,b3,m3,e3,b4,m4,e4,hds⟩:=h2.open
 rw[hds,how]
 refine enter Tryz.func50 Tryz.ntmps50 rfl rfl ?_
 repeat refine c_r ?_
 refine rg0 ?_
 repeat refine c_r ?_
 rw[zat]
 refine zdt ?_
 intro w1 hE1 hs1 hA hC
 have p0:zaf w1 (some ⟨w.heap.size,0,Option.none⟩)=some (.slice oa on oc):=zac hA rfl
 have p1:zaf w1 (some ⟨w.heap.size,1,Option.none⟩)=some (v32 r.ttl):=zac hA rfl
 have p2:zav w1 (some ⟨w.heap.size,2,Option.none⟩) 5=some [vi r.dat.ty,.slice b1 m1 e1,.slice b2 m2 e2,.slice b3 m3 e3,.slice b4 m4 e4]:=by
  have h7:=za4 (n:=7) (l:=[.slice oa on oc,v32 r.ttl,vi r.dat.ty,.slice b1 m1 e1,.slice b2 m2 e2,.slice b3 m3 e3,.slice b4 m4 e4]) hA rfl
  have:=zcd (m:=2) (k:=5) h7
  rwa [zaW]at this
 refine zaK (fun i=>i==8) [(0,true),(1,true),(2,true),(3,true),(4,true),(5,true),(6,false),(7,true),(8,false)] NoS mixed (by kernel_rfl) ?_;intro gd K x hgd hx hxe hK;clear hxe
 have p0x:=zaa hx p0
 have p1x:=zaa hx p1
 have p2x:=zai hx p2
 have hxs:=hx.size
 simp (disch:=first|omega|assumption|rfl) only[go_sem,p0x,p1x,p2x,Nat.add_zero,Nat.zero_add]
 rw[←hds]
 refine Fn.mono (DOf_ok (hE0.trans (hE1.trans hx)) h2 hnn) ?_
 rintro _ w2 ⟨hE2,cs',nm',rfl,hd'⟩
 refine⟨.inr hE2,?_⟩
 obtain⟨b1',m1',e1',b2',m2',e2',b3',m3',e3',b4',m4',e4',hds'⟩:=hd'.open
 rw[hds']
 simp (disch:=first|omega|assumption|rfl) only[go_sem,p0x,p1x,p2x,Nat.add_zero,Nat.zero_add]
 refine⟨by kernel_rfl,?_⟩
 rw[show bdV Tryz.prog 98 [(0,.slice oa on oc),(1,v32 r.ttl),(2,.agg [vi r.dat.ty,.slice b1' m1' e1',.slice b2' m2' e2',.slice b3' m3' e3',.slice b4' m4' e4'].toArray)]=some (.agg #[.slice oa on oc,v32 r.ttl,vi r.dat.ty,.slice b1' m1' e1',.slice b2' m2' e2',.slice b3' m3' e3',.slice b4' m4' e4']) from by kernel_rfl]
 simp (disch:=first|omega|assumption|rfl) only[go_sem]
 refine zfY (P:=Tryz.prog) (t:=98) (l:=[.slice oa on oc,v32 r.ttl,vi r.dat.ty,.slice b1' m1' e1',.slice b2' m2' e2',.slice b3' m3' e3',.slice b4' m4' e4']) (Ext.at (hx.trans hE2) hC) rfl (fun v h=>by simp at h;rcases h with rfl|rfl|rfl|rfl|rfl|rfl|rfl<;>rfl) rfl rfl ?_
 intro z hz' hbz hkz
 refine⟨.inl rfl,?_⟩
 simp (disch:=first|omega|assumption|rfl) only[go_sem]
 refine hK _ _ ?_;clear hK hgd;clear K;try clear gd
 repeat refine c_r ?_
 refine zaB (.inr rfl) Tryz.ntmps50 rfl (zhx (x:=⟨w.heap.size+1,0,Option.none⟩) (k:=7) (vq0) rfl rfl (za4 hbz rfl) zay) ?_
 have hEz:Ext w z:=Keep.to_ext (hE1.trans (hx.trans hE2)) rfl (fun b hb=>by omega) hkz
 refine⟨hEz,_,nm',rfl,⟨ow,cs',?_,h1,?_⟩⟩
 ·rw[how,hds']
 ·exact(hd'.keep hkz (fun a n c hv=>by have:=hd'.blk a n c hv;omega)).mono (by omega)
end Go.Proofs.YtanmnkbccfcagaaGreatDoor
