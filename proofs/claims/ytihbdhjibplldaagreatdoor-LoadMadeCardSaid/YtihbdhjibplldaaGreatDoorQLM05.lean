/-
  Texts of a proof, joined: B2, HJ, HK, HL, HM, HN, HO, JA, JB, JC, JD.
  Conditions: none.
-/
import Derived.Test.YtihbdhjibplldaaGreatDoorQLM04
import Derived.Test.YtihbdhjibplldaaGreatDoorQLM02
import Derived.Test.YtihbdhjibplldaaGreatDoorQLM03
set_option linter.unusedVariables false
set_option linter.unusedSimpArgs false
set_option linter.defProp false
set_option linter.unnecessarySimpa false
set_option maxHeartbeats 8000000
namespace Go.Proofs.YtihbdhjibplldaaGreatDoor
open Go
set_option maxRecDepth 10000
theorem zdZ(n:Nm):(n.flatMap fun l=>zas l++ [46]).length≤4*(n.map List.length).sum+n.length:=by
 induction n with
 |nil=>simp
 |cons l n ih=>
  have:=zce l
  rw[List.flatMap_cons,List.length_append,List.map_cons,List.sum_cons,List.length_cons]
  simp only[List.length_append,List.length_singleton]
  omega
theorem zhF(w:World)(nv:Value)(n:Nm)(hn:Row w nv (n.map vs))(hl:∀l∈n,l.length≤1000000)(hnl:n.length≤1000):
  Fn Tryz.prog 25 #[nv] w (fun v w'=>v=vs (za7 n)∧Ext w w'):=by
 obtain⟨an,cn,rfl,hcn,hgn⟩:=hn
 simp only[List.length_map]at hcn hgn
 rw[List.length_map]
 refine enter Tryz.func25 Tryz.ntmps25 rfl rfl ?_
 repeat refine c_r ?_
 refine rg0 ?_
 repeat refine c_r ?_
 refine rg0 ?_
 repeat refine c_r ?_
 refine wc0 ?_ ?_
 ·intro h0
  simp only[decide_eq_true_eq]at h0
  have hn0:n=[]:=List.length_eq_zero_iff.1 (by omega)
  repeat (first|refine c_r ?_|refine rg0 ?_)
  refine rt0 Tryz.ntmps25 ?_
  exact⟨by unfold za7;rw[if_pos hn0],Keep.refl _ _⟩
 intro h0
 simp only[decide_eq_false_iff_not]at h0
 have hn0:n≠ []:=fun h=>h0 (by rw[h];rfl)
 repeat refine c_r ?_
 refine rg0 ?_
 refine zam ?_
 intro w1 hE1 hs1 hA
 repeat refine c_r ?_
 refine rg0 ?_
 repeat refine c_r ?_
 refine zbg (fun m σ ds A=>ds=[]∧∃(i:Nat),i+m=n.length∧σ 11=vi i∧σ 10=vi n.length∧σ 9= .slice an n.length cn∧σ 3= .pointer (some ⟨w.heap.size,0,Option.none⟩)∧Ext w A∧w1.heap.size≤A.heap.size∧Bld w1.heap.size A w.heap.size ((n.take i).flatMap fun l=>zas l++ [46])) n.length ?_ ?_
 ·exact⟨rfl,0,by omega,vr0,vq0,vq0,vq0,hE1,Nat.le_refl _,_,_,.inl rfl,hA,Own.nil _ _ _⟩
 rintro m σ ds A ⟨rfl,i,him,h11,h10,h9,h3,hEA,hsA,hB⟩
 repeat refine c_r ?_
 refine rq ?_;intro gd K hgd hK;simp (disch:=first|omega|assumption|rfl) only[go_sem,h11,h10];refine hK _ _ ?_;clear hK hgd;clear K gd
 repeat refine c_r ?_
 refine wc0 ?_ ?_
 ·intro hlt
  simp only[decide_eq_true_eq]at hlt
  have hi:i<n.length:=by omega
  have hi0:(0:Int)≤(i:Int):=by omega
  have hi1:(i:Int)<(n.length:Int):=by omega
  have hi1':(i:Int)+1=((i+1:Nat):Int):=by push_cast;rfl
  have hg:=zab hEA (hgn i (by simpa using hi))
  rw[List.getElem_map]at hg
  obtain⟨l,hle⟩:∃l,n[i]=l:=⟨_,rfl⟩
  rw[hle]at hg
  have hmem:l∈n:=hle▸List.getElem_mem hi
  obtain⟨xn,rfl⟩:=Option.isSome_iff_exists.1 (zap hg)
  have hpl:((n.take i).flatMap fun l=>zas l++ [46]).length≤5000000000:=by
   have h1:=zdZ (n.take i)
   have h2:((n.take i).map List.length).sum≤1000000*n.length:=by
    have:∀(k:Nm),(∀l∈k,l.length≤1000000)→(k.map List.length).sum≤1000000*k.length:=fun k=>by
     induction k with
     |nil=>intro _;simp
     |cons x k ih=>
      intro h
      have h3:=ih (fun l hl=>h l (List.mem_cons_of_mem _ hl))
      have h4:=h x (List.mem_cons_self ..)
      rw[List.map_cons,List.sum_cons,List.length_cons];omega
    have h3:=this (n.take i) (fun l hl'=>hl l (List.mem_of_mem_take hl'))
    rw[List.length_take]at h3;omega
   rw[List.length_take]at h1;omega
  have htl:=zce l
  have hll:=hl l hmem
  have hadd:(zas l).length+([46]:List UInt8).length≤9223372036854775807:=by rw[List.length_singleton];omega
  repeat refine c_r ?_
  refine rq ?_;intro gd K hgd hK;simp (disch:=first|omega|assumption|rfl) only[go_sem,h9,h11,hi0,hi1,hg];refine hK _ _ ?_;clear hK hgd;clear K gd
  repeat refine c_r ?_
  refine rq ?_;intro gd K hgd hK
  try simp only[go_sem]
  refine Fn.mono (LText_ok A l (by omega)) ?_
  rintro _ A1 ⟨rfl,hE2⟩
  try simp (disch:=first|omega|assumption|rfl) only[go_sem,h3]
  refine Fn.mono (zay (s:=zas l++ [46]) (hB.ext' hE2) (by have:=hE2.size;omega) (by rw[List.length_append,List.length_singleton];omega)) ?_
  rintro _ A2 ⟨hB2,hk2⟩
  try simp only[go_sem]
  refine hK _ _ ?_;clear hK hgd;clear K;try clear gd
  repeat refine c_r ?_
  refine rq ?_;intro gd K hgd hK;simp (disch:=first|omega|assumption|rfl) only[go_sem,h11,hi1'];refine hK _ _ ?_;clear hK hgd;clear K gd
  repeat refine c_r ?_
  refine⟨m - 1,by omega,rfl,i+1,by omega,vq0,(vq1 h10),(vq1 h9),(vq1 h3),Keep.to_ext (hEA.trans hE2) rfl (fun b hb=>by omega) hk2,by have:=hE2.size;have:=hk2.size;omega,?_⟩
  rw[zal hi,List.flatMap_append,hle]
  simpa using hB2
 ·intro hge
  simp only[decide_eq_false_iff_not]at hge
  rw[List.take_of_length_le (by omega)]at hB
  have hpl:(n.flatMap fun l=>zas l++ [46]).length≤5000000000:=by
   have h1:=zdZ n
   have:∀(k:Nm),(∀l∈k,l.length≤1000000)→(k.map List.length).sum≤1000000*k.length:=fun k=>by
    induction k with
    |nil=>intro _;simp
    |cons x k ih=>
     intro h
     have h3:=ih (fun l hl=>h l (List.mem_cons_of_mem _ hl))
     have h4:=h x (List.mem_cons_self ..)
     rw[List.map_cons,List.sum_cons,List.length_cons];omega
   have h3:=this n hl
   omega
  repeat refine c_r ?_
  refine rq ?_;intro gd K hgd hK
  try simp (disch:=first|omega|assumption|rfl) only[go_sem,h3]
  refine Fn.mono (zb3 hB (by omega)) ?_
  rintro _ z ⟨rfl,hkz⟩
  try simp only[go_sem]
  refine hK _ _ ?_;clear hK hgd;clear K;try clear gd
  repeat refine c_r ?_
  refine rt0 Tryz.ntmps25 ?_
  exact⟨by unfold za7;rw[if_neg hn0],Keep.to_ext hEA rfl (fun b hb=>by omega) hkz⟩
theorem zhR{w:World}{v:Value}{L:List Nm}(h:NamesAt w v L):∃a c,v= .slice a L.length c∧∀i (hi:i<L.length),∃y,zad w (adr a i)=some y∧Row w y (L[i].map vs):=by
 obtain⟨vals,⟨a,c,e,_,hg⟩,hl,hr⟩:=h
 exact⟨a,c,by rw[e,hl],fun i hi=>⟨vals[i]'(by omega),hg i (by omega),hr i (by omega) hi⟩⟩
structure DatS(d:DatL):Prop where
 names:∀n∈d.names,(∀l∈n,l.length≤1000)∧n.length≤1000
 nn:d.names.length≤1000
 nu:d.nums.length≤1000
 nv:∀n∈d.nums,0≤n∧n≤4294967295
 nt:d.texts.length≤1000
 tx:∀t∈d.texts,t.length≤1000
 nr:d.raw.length≤2000
def zb5(d:DatL):List Lab:=d.nums.map numT
def zbA(d:DatL):List Lab:=(if d.ty=15 then zb5 d else [])++d.names.map za7++(if d.ty=15 then [] else zb5 d)++d.texts.map quoT
def zc1(fx:Nat→Lab)(d:DatL):List Lab:=
 if d.ty=1 then [zck Lib.decDigits 1 [46] d.raw] else if d.ty=28 then [zck fx 2 [58] d.raw] else if (zbI d.ty tyTab).2=true then [] else [[92,35],Lib.itoa (d.raw.length:Nat)]++(if d.raw.length=0 then [] else [hexT d.raw])
def zbu(fx:Nat→Lab)(d:DatL):List Lab:=zbA d++zc1 fx d
theorem VarT.size{B bv:Nat}{w:World}{L:List Lab}(h:VarT B bv w L):bv<w.heap.size:=by
 obtain⟨sv,h1,_⟩:=h.ex
 exact(Array.getElem?_eq_some_iff.1 h1).1
theorem words_ok{w:World}(hW:WY w){cs:List Value}{d:DatL}(hD:DatAt w cs d)(hS:DatS d){fx:Nat→Lab}(hfx:∀u,u<65536→(fx u).length≤100)
  (hF:∀v u,WY v→u<65536→Fn Tryz.prog 26 #[.int .u64 (u:Nat),vi 16] v (fun r v'=>r=vs (fx u)∧Ext v v')):
  Fn Tryz.prog 52 #[.agg cs.toArray] w (fun u w'=>Row w' u ((zbu fx d).map vs)∧Ext w w'):=by
 obtain⟨nm,nu,tx,rw',rfl,hnm,hnu,htx,hraw⟩:=hD.ex
 obtain⟨an,hann⟩:=zhR hnm
 obtain⟨cn,hnmv,hgn⟩:=hann
 obtain⟨at',ct,htxv,hct,hgt⟩:=id htx
 obtain⟨ar,cr,hrv,hcr,hgr⟩:=id hraw
 rw[List.length_map]at htxv hrv hct hcr
 refine enter Tryz.func52 Tryz.ntmps52 rfl rfl ?_
 repeat refine c_r ?_
 refine rg0 ?_
 repeat refine c_r ?_
 refine zam ?_
 intro w1 hE1 hz1 hA
 refine rg0 ?_
 repeat refine c_r ?_
 refine zam ?_
 intro w2 hE2 hz2 hV2
 have hE12:=hE1.trans hE2
 have hA2:=hE2.at hA
 obtain⟨bv,hbv⟩:∃bv,w1.heap.size=bv:=⟨_,rfl⟩
 obtain⟨bd,hbd⟩:∃bd,w.heap.size=bd:=⟨_,rfl⟩
 obtain⟨B,hB⟩:∃B,w2.heap.size=B:=⟨_,rfl⟩
 rw[hbv]at hV2 ⊢
 rw[hbd]at hA2 ⊢
 have hVar2:VarT B bv w2 []:=⟨_,hV2,Own.nil _ _ _⟩
 -- what is kept
 have old:∀{v:World},Keep (fun i=>i=bv∨B≤i) w2 v→Ext w v∧v.heap[bd]? =w2.heap[bd]?∧B≤v.heap.size:=fun hk=>
  ⟨Keep.to_ext hE12 rfl (fun b hb=>by omega) hk,hk.block _ (by omega) (by omega),by have:=hk.size;omega⟩
 have q0:∀{v:World},Keep (fun i=>i=bv∨B≤i) w2 v→zad v (some ⟨bd,0,Option.none⟩)=some (vi d.ty)∧zad v (some ⟨bd,1,Option.none⟩)=some (.slice an d.names.length cn)∧zad v (some ⟨bd,3,Option.none⟩)=some (.slice at' d.texts.length ct)∧zad v (some ⟨bd,4,Option.none⟩)=some (.slice ar d.raw.length cr):=fun hk=>by
  have hh:=(old hk).2.1.trans hA2
  exact⟨zaa hh rfl,by rw[←hnmv];exact zaa hh rfl,by rw[←htxv];exact zaa hh rfl,by rw[←hrv];exact zaa hh rfl⟩
 -- the closure's call
 have clo:∀{v:World} {L:List Lab},Keep (fun i=>i=bv∨B≤i) w2 v→VarT B bv v L→L.length≤100000→Fn Tryz.prog 73 #[.pointer (some ⟨bd,0,Option.none⟩),.pointer (some ⟨bv,0,Option.none⟩)] v (fun _ v'=>VarT B bv v' (L++zb5 d)∧Keep (fun i=>i=bv∨B≤i) w2 v'):=fun {v L} hk hVv hL=>
  Fn.mono (zig hW (old hk).1 hnu ((old hk).2.1.trans hA2) (by omega) (by omega) (by omega) (by omega) (old hk).2.2 hS.nv hS.nu (by omega) hVv) fun _ _ ⟨h1,h2⟩=>⟨h1,hk.trans h2⟩
 have k2:Keep (fun i=>i=bv∨B≤i) w2 w2:=Keep.refl _ _
 have N1:(zb5 d).length≤1000:=by unfold zb5;rw[List.length_map];exact hS.nu
 obtain⟨p0,p1,p3,p4⟩:=q0 k2
 refine go (an2 p0 (Nat.zero_add 1)) ?_
 refine zav (Q:=fun e σ' ds' v'=>e= .normal∧ds'=[]∧σ' 1= .pointer (some ⟨bd,0,Option.none⟩)∧σ' 3= .pointer (some ⟨bv,0,Option.none⟩)∧σ' 4= .func (.func 73) #[] #[.pointer (some ⟨bd,0,Option.none⟩),.pointer (some ⟨bv,0,Option.none⟩)]∧VarT B bv v' (if d.ty=15 then zb5 d else [])∧Keep (fun i=>i=bv∨B≤i) w2 v') ?_ ?_
 ·by_cases h15:d.ty=15
  ·rw[if_pos h15]
   refine wt (decide_eq_true h15) ?_
   refine go trivial ?_
   refine rc trivial (clo k2 hVar2 (by simp)) ?_
   rintro _ v ⟨hv1,hv2⟩
   refine rgo trivial ?_
   exact⟨rfl,rfl,vr0,vr0,vr0,by simpa using hv1,hv2⟩
  ·rw[if_neg h15]
   refine wf (decide_eq_false h15) ?_
   refine go trivial ?_
   exact⟨rfl,rfl,vr0,vr0,vr0,hVar2,k2⟩
 rintro _ σ _ v1 ⟨rfl,rfl,s1,s3,s4,hVa,k3⟩
 obtain⟨L0,hL0⟩:∃L0,(if d.ty=15 then zb5 d else [])=L0:=⟨_,rfl⟩
 have N0:L0.length≤1000:=by rw[←hL0];split<;>simp[N1]
 rw[hL0]at hVa
 obtain⟨p0,p1,p3,p4⟩:=q0 k3
 refine go (an5 s1 s3 s4 p1 (Nat.zero_add 1)) ?_
 refine zav (Q:=fun e σ' ds' v'=>e= .exit 0∧ds'=[]∧σ' 1= .pointer (some ⟨bd,0,Option.none⟩)∧σ' 3= .pointer (some ⟨bv,0,Option.none⟩)∧σ' 4= .func (.func 73) #[] #[.pointer (some ⟨bd,0,Option.none⟩),.pointer (some ⟨bv,0,Option.none⟩)]∧VarT B bv v' (L0++d.names.map za7)∧Keep (fun i=>i=bv∨B≤i) w2 v') ?_ ?_
 ·refine zbq d.names.length (fun i σ v=>σ 1= .pointer (some ⟨bd,0,Option.none⟩)∧σ 3= .pointer (some ⟨bv,0,Option.none⟩)∧σ 4= .func (.func 73) #[] #[.pointer (some ⟨bd,0,Option.none⟩),.pointer (some ⟨bv,0,Option.none⟩)]∧σ 16= .slice an d.names.length cn∧σ 17=vi d.names.length∧σ 18=vi i∧VarT B bv v (L0++(d.names.take i).map za7)∧Keep (fun i=>i=bv∨B≤i) w2 v) ?_ ?_ ?_
  ·exact⟨(vq1 s1),(vq1 s3),(vq1 s4),vr0,vr0,vr0,by simpa using hVa,k3⟩
  ·rintro i σ v hi p ⟨s1,s3,s4,s16,s17,s18,hVv,hk⟩
   obtain⟨hEv,_,hBv⟩:=old hk
   obtain⟨y,gy,hyr⟩:=hgn i hi
   have g:=zab hEv gy
   obtain⟨n,hn⟩:∃n,d.names[i]=n:=⟨_,rfl⟩
   have hnS:=hS.names d.names[i] (List.getElem_mem hi)
   rw[hn]at hyr hnS
   obtain⟨xa,rfl⟩:=Option.isSome_iff_exists.1 (zap g)
   have hi0:(0:Int)≤(i:Int):=by omega
   have hi1:(i:Int)<(d.names.length:Int):=by omega
   have hi2:(i:Int)+1=((i+1:Nat):Int):=by push_cast;rfl
   have hnn:=hS.nn
   obtain⟨sv,hb,hown⟩:=hVv.ex
   have qv:zad v (some ⟨bv,0,Option.none⟩)=some sv:=zaa hb rfl
   obtain⟨ya,yc,hyv,_⟩:=id hyr
   rw[hyv]at g hyr
   refine go (an9 s1 s3 s4 s16 s17 s18 p g (an2 hi0 hi1)) ?_
   refine zaS (fun i=>i==5) [(0,true),(1,true),(2,false),(3,false),(4,false),(5,false)] (zdx B) mixed (by kernel_rfl) ?_;intro gd K x hgd hx hxe hK;have hx0:=zaP hxe;clear hxe
   have qvx:=zab hx0 qv
   have hsx0:=hx0.size
   simp (disch:=first|omega|assumption|rfl) only[go_sem,s3,qvx]
   refine⟨zbw (by omega),?_⟩
   refine Fn.mono (zhF _ _ n (hyr.ext (hEv.trans hx0)) (fun l hl=>by have:=hnS.1 l hl;omega) hnS.2) ?_
   rintro _ y0 ⟨rfl,hy0⟩
   refine⟨.inr hy0.keep,?_⟩
   simp (disch:=first|omega|assumption|rfl) only[go_sem]
   refine za5 (z:=vs []) rfl rfl rfl rfl rfl ?_
   intro y1 hy1 hys1 hyo
   refine⟨.inr hy1.keep,?_⟩
   simp (disch:=first|omega|assumption|rfl) only[go_sem]
   have hsy0:=hy0.size
   have hxy1:=(hx0.trans hy0).trans hy1
   refine za2 (e:=9) (hown.ext hxy1) hyo.row rfl rfl rfl rfl rfl rfl (vr0) (vr0) (fun q hq=>by simp at hq;subst hq;rfl) (by simp;omega) (by decide) (by omega) ?_
   intro sv' y2 hown2 hX2 hK2 hb2
   refine⟨.inr (hK2.mono fun b _ hb=>by have:=(hown.ge hb).1;show _≤_;omega),?_⟩
   simp (disch:=first|omega|assumption|rfl) only[go_sem,s3]
   have hs2:=hK2.size
   have hb2Y:=(hK2.block bv (by omega) (fun hh=>by have:=(hown.ge hh).1;omega)).trans (Ext.at hxy1 hb)
   refine zan (P:=Tryz.prog) rfl rfl (by obtain⟨a,c,rfl⟩:=hown2.slice;rfl) hb2Y (by simp) (by simp) ?_
   intro y3 hs3' hb3 hk3
   refine⟨.inl rfl,?_⟩
   simp (disch:=first|omega|assumption|rfl) only[go_sem]
   refine hK _ _ ?_;clear hK hgd;clear K;try clear gd
   refine go (an7 s1 s3 s4 s16 s17 s18 hi2) ?_
   refine⟨rfl,(vq1 s1),(vq1 s3),(vq1 s4),(vq1 s16),(vq1 s17),(vq1 hi2),⟨sv',hb3,?_⟩,?_⟩
   ·rw[show (L0++(d.names.take (i+1)).map za7).map vs=(L0++(d.names.take i).map za7).map vs++ [vs (za7 n)] by rw[zal hi,hn];simp]
    exact hown2.keep hk3 (fun b hb h=>by have:=(hown2.ge hb).1;omega)
   ·exact hk.trans (((hxy1.mono fun _ _ h=>h.elim).trans (hK2.mono fun b _ hb=> .inr (hown.ge hb).1)).trans (hk3.mono fun b _ hb=> .inl hb))
  ·rintro σ v p ⟨s1,s3,s4,s16,s17,s18,hVv,hk⟩
   rw[List.take_length]at hVv
   refine go (an4 s16 s17 s18 p) ?_
   exact⟨rfl,rfl,(vq1 s1),(vq1 s3),(vq1 s4),hVv,hk⟩
 clear k3 hVa s1 s3 s4 p0 p1 p3 p4 σ
 rintro _ σ _ v1 ⟨rfl,rfl,s1,s3,s4,hVa,k3⟩
 obtain⟨L1,hL1⟩:∃L1,L0++d.names.map za7=L1:=⟨_,rfl⟩
 have N1':L1.length≤2000:=by have:=hS.nn;rw[←hL1];simp;omega
 rw[hL1]at hVa
 obtain⟨p0,p1,p3,p4⟩:=q0 k3
 refine go (an5 s1 s3 s4 p0 (Nat.zero_add 1)) ?_
 refine zav (Q:=fun e σ' ds' v'=>e= .normal∧ds'=[]∧σ' 1= .pointer (some ⟨bd,0,Option.none⟩)∧σ' 3= .pointer (some ⟨bv,0,Option.none⟩)∧VarT B bv v' (L1++(if d.ty=15 then [] else zb5 d))∧Keep (fun i=>i=bv∨B≤i) w2 v') ?_ ?_
 ·by_cases h15:d.ty=15
  ·rw[if_pos h15]
   refine wf (show(!decide (d.ty=15))=false by rw[decide_eq_true h15];rfl) ?_
   refine go trivial ?_
   exact⟨rfl,rfl,(vq1 s1),(vq1 s3),by simpa using hVa,k3⟩
  ·rw[if_neg h15]
   refine wt (show(!decide (d.ty=15))=true by rw[decide_eq_false h15];rfl) ?_
   refine go (an3 s1 s3 s4) ?_
   refine rc s4 (clo k3 hVa (by omega)) ?_
   rintro _ v ⟨hv1,hv2⟩
   refine rgo trivial ?_
   exact⟨rfl,rfl,(vq1 s1),(vq1 s3),hv1,hv2⟩
 clear k3 hVa s1 s3 s4 p0 p1 p3 p4 σ
 rintro _ σ _ v1 ⟨rfl,rfl,s1,s3,hVa,k3⟩
 obtain⟨L2,hL2⟩:∃L2,L1++(if d.ty=15 then [] else zb5 d)=L2:=⟨_,rfl⟩
 have N2:L2.length≤3000:=by
  have h1:(if d.ty=15 then([]:List Lab) else zb5 d).length≤1000:=by
   split
   ·exact Nat.zero_le _
   ·exact N1
  rw[←hL2,List.length_append];omega
 rw[hL2]at hVa
 obtain⟨p0,p1,p3,p4⟩:=q0 k3
 refine go (an4 s1 s3 p3 (Nat.zero_add 3)) ?_
 refine zav (Q:=fun e σ' ds' v'=>e= .exit 2∧ds'=[]∧σ' 1= .pointer (some ⟨bd,0,Option.none⟩)∧σ' 3= .pointer (some ⟨bv,0,Option.none⟩)∧VarT B bv v' (L2++d.texts.map quoT)∧Keep (fun i=>i=bv∨B≤i) w2 v') ?_ ?_
 ·refine zbq d.texts.length (fun i σ v=>σ 1= .pointer (some ⟨bd,0,Option.none⟩)∧σ 3= .pointer (some ⟨bv,0,Option.none⟩)∧σ 34= .slice at' d.texts.length ct∧σ 35=vi d.texts.length∧σ 36=vi i∧VarT B bv v (L2++(d.texts.take i).map quoT)∧Keep (fun i=>i=bv∨B≤i) w2 v) ?_ ?_ ?_
  ·exact⟨(vq1 s1),(vq1 s3),vr0,vr0,vr0,by simpa using hVa,k3⟩
  ·rintro i σ v hi p ⟨s1,s3,s16,s17,s18,hVv,hk⟩
   obtain⟨hEv,_,hBv⟩:=old hk
   have g:=zab hEv (hgt i (by rw[List.length_map];exact hi))
   rw[List.getElem_map]at g
   obtain⟨n,hn⟩:∃n,d.texts[i]=n:=⟨_,rfl⟩
   have hnS:=hS.tx d.texts[i] (List.getElem_mem hi)
   rw[hn]at g hnS
   obtain⟨xa,rfl⟩:=Option.isSome_iff_exists.1 (zap g)
   have hi0:(0:Int)≤(i:Int):=by omega
   have hi1:(i:Int)<(d.texts.length:Int):=by omega
   have hi2:(i:Int)+1=((i+1:Nat):Int):=by push_cast;rfl
   have hnn:=hS.nt
   obtain⟨sv,hb,hown⟩:=hVv.ex
   have qv:zad v (some ⟨bv,0,Option.none⟩)=some sv:=zaa hb rfl
   refine go (an8 s1 s3 s16 s17 s18 p g (an2 hi0 hi1)) ?_
   refine zaS (fun i=>i==5) [(0,true),(1,true),(2,false),(3,false),(4,false),(5,false)] (zdx B) mixed (by kernel_rfl) ?_;intro gd K x hgd hx hxe hK;have hx0:=zaP hxe;clear hxe
   have qvx:=zab hx0 qv
   have hsx0:=hx0.size
   simp (disch:=first|omega|assumption|rfl) only[go_sem,s3,qvx]
   refine⟨zbw (by omega),?_⟩
   refine Fn.mono (quote_ok _ n (by omega)) ?_
   rintro _ y0 ⟨rfl,hy0⟩
   refine⟨.inr hy0.keep,?_⟩
   simp (disch:=first|omega|assumption|rfl) only[go_sem]
   refine za5 (z:=vs []) rfl rfl rfl rfl rfl ?_
   intro y1 hy1 hys1 hyo
   refine⟨.inr hy1.keep,?_⟩
   simp (disch:=first|omega|assumption|rfl) only[go_sem]
   have hsy0:=hy0.size
   have hxy1:=(hx0.trans hy0).trans hy1
   refine za2 (e:=9) (hown.ext hxy1) hyo.row rfl rfl rfl rfl rfl rfl (vr0) (vr0) (fun q hq=>by simp at hq;subst hq;rfl) (by simp;omega) (by decide) (by omega) ?_
   intro sv' y2 hown2 hX2 hK2 hb2
   refine⟨.inr (hK2.mono fun b _ hb=>by have:=(hown.ge hb).1;show _≤_;omega),?_⟩
   simp (disch:=first|omega|assumption|rfl) only[go_sem,s3]
   have hs2:=hK2.size
   have hb2Y:=(hK2.block bv (by omega) (fun hh=>by have:=(hown.ge hh).1;omega)).trans (Ext.at hxy1 hb)
   refine zan (P:=Tryz.prog) rfl rfl (by obtain⟨a,c,rfl⟩:=hown2.slice;rfl) hb2Y (by simp) (by simp) ?_
   intro y3 hs3' hb3 hk3
   refine⟨.inl rfl,?_⟩
   simp (disch:=first|omega|assumption|rfl) only[go_sem]
   refine hK _ _ ?_;clear hK hgd;clear K;try clear gd
   refine go (an6 s1 s3 s16 s17 s18 hi2) ?_
   refine⟨rfl,(vq1 s1),(vq1 s3),(vq1 s16),(vq1 s17),(vq1 hi2),⟨sv',hb3,?_⟩,?_⟩
   ·rw[show (L2++(d.texts.take (i+1)).map quoT).map vs=(L2++(d.texts.take i).map quoT).map vs++ [vs (quoT n)] by rw[zal hi,hn];simp]
    exact hown2.keep hk3 (fun b hb h=>by have:=(hown2.ge hb).1;omega)
   ·exact hk.trans (((hxy1.mono fun _ _ h=>h.elim).trans (hK2.mono fun b _ hb=> .inr (hown.ge hb).1)).trans (hk3.mono fun b _ hb=> .inl hb))
  ·rintro σ v p ⟨s1,s3,s16,s17,s18,hVv,hk⟩
   rw[List.take_length]at hVv
   refine go (an4 s16 s17 s18 p) ?_
   exact⟨rfl,rfl,(vq1 s1),(vq1 s3),hVv,hk⟩
 clear k3 hVa s1 s3 p0 p1 p3 p4 σ
 rintro _ σ _ v1 ⟨rfl,rfl,s1,s3,hVa,k3⟩
 have hfr:zbA d=L2++d.texts.map quoT:=by unfold zbA;rw[←hL2,←hL1,←hL0]
 rw[←hfr]at hVa
 have N3:(zbA d).length≤4000:=by have:=hS.nt;rw[hfr];simp;omega
 obtain⟨p0,p1,p3,p4⟩:=q0 k3
 obtain⟨hEv,hbdv,hBv⟩:=old k3
 obtain⟨sv,hb,hown⟩:=hVa.ex
 have qv:zad v1 (some ⟨bv,0,Option.none⟩)=some sv:=zaa hb rfl
 have hcs:zaq v1 (some ⟨bd,0,Option.none⟩) 5=some [vi d.ty,nm,nu,tx,rw']:=zai (n:=5) (hbdv.trans hA2) rfl
 have hWv:=hW.ext hEv
 have o1:bd<B:=by omega
 have o2:bv<B:=by omega
 by_cases h1:d.ty=1
 ·refine go (an5 s1 s3 p0 (decide_eq_true h1) (Nat.zero_add 0)) ?_
  ·refine zaS (fun _=>false) [(0,true),(1,true),(2,false),(3,false),(4,false),(5,true)] (zdx B) mixed (by kernel_rfl) ?_;intro gd K x hgd hx hxe hK;have hx0:=zaP hxe;clear hxe
   have qvx:=zab hx0 qv
   have csx:=zaj hx0 hcs
   simp (disch:=first|omega|assumption|rfl) only[go_sem,s1,s3,qvx,csx]
   refine⟨zbw o2,zbw o1,?_⟩
   refine Fn.mono (zf5 (hWv.ext hx0) (hD.ext (hEv.trans hx0)) (k:=1) (base:=10) (sep:=[46]) (fm:=Lib.decDigits) (by decide) (by decide) hS.nr (by decide) (by decide) (fun u hu=>by have:=zaQ 4 u (by omega);omega) (fun v u hv hu=>zcu hv u (by omega))) ?_
   rintro _ y0 ⟨rfl,hy0⟩
   refine⟨.inr hy0.keep,?_⟩
   simp (disch:=first|omega|assumption|rfl) only[go_sem]
   refine za5 (z:=vs []) rfl rfl rfl rfl rfl ?_
   intro y1 hy1 hys1 hyo
   refine⟨.inr hy1.keep,?_⟩
   simp (disch:=first|omega|assumption|rfl) only[go_sem]
   have hsy0:=hy0.size
   have hsx0:=hx0.size
   have hxy1:=(hx0.trans hy0).trans hy1
   refine za2 (e:=9) (hown.ext hxy1) hyo.row rfl rfl rfl rfl rfl rfl (vr0) (vr0) (fun q hq=>by simp at hq;subst hq;rfl) (by simp;omega) (by decide) (by omega) ?_
   intro sv' y2 hown2 hX2 hK2 hb2
   refine⟨.inr (hK2.mono fun b _ hb=>by have:=(hown.ge hb).1;show _≤_;omega),?_⟩
   simp (disch:=first|omega|assumption|rfl) only[go_sem]
   refine hK _ _ ?_;clear hK hgd;clear K;try clear gd
   refine go trivial ?_
   refine rt0 Tryz.ntmps52 ?_
   refine⟨?_,hX2 w (hEv.trans hxy1) (by omega)⟩
   unfold zbu zc1
   rw[if_pos h1,List.map_append]
   exact hown2.row
 have d1:decide (d.ty=1)=false:=decide_eq_false h1
 by_cases h28:d.ty=28
 ·refine go (an6 s1 s3 p0 d1 (decide_eq_true h28) (Nat.zero_add 0)) ?_
  ·refine zaS (fun _=>false) [(0,true),(1,true),(2,false),(3,false),(4,false),(5,true)] (zdx B) mixed (by kernel_rfl) ?_;intro gd K x hgd hx hxe hK;have hx0:=zaP hxe;clear hxe
   have qvx:=zab hx0 qv
   have csx:=zaj hx0 hcs
   simp (disch:=first|omega|assumption|rfl) only[go_sem,s1,s3,qvx,csx]
   refine⟨zbw o2,zbw o1,?_⟩
   refine Fn.mono (zf5 (hWv.ext hx0) (hD.ext (hEv.trans hx0)) (k:=2) (base:=16) (sep:=[58]) (fm:=fx) (by decide) (by decide) hS.nr (by decide) (by decide) hfx hF) ?_
   rintro _ y0 ⟨rfl,hy0⟩
   refine⟨.inr hy0.keep,?_⟩
   simp (disch:=first|omega|assumption|rfl) only[go_sem]
   refine za5 (z:=vs []) rfl rfl rfl rfl rfl ?_
   intro y1 hy1 hys1 hyo
   refine⟨.inr hy1.keep,?_⟩
   simp (disch:=first|omega|assumption|rfl) only[go_sem]
   have hsy0:=hy0.size
   have hsx0:=hx0.size
   have hxy1:=(hx0.trans hy0).trans hy1
   refine za2 (e:=9) (hown.ext hxy1) hyo.row rfl rfl rfl rfl rfl rfl (vr0) (vr0) (fun q hq=>by simp at hq;subst hq;rfl) (by simp;omega) (by decide) (by omega) ?_
   intro sv' y2 hown2 hX2 hK2 hb2
   refine⟨.inr (hK2.mono fun b _ hb=>by have:=(hown.ge hb).1;show _≤_;omega),?_⟩
   simp (disch:=first|omega|assumption|rfl) only[go_sem]
   refine hK _ _ ?_;clear hK hgd;clear K;try clear gd
   refine go trivial ?_
   refine rt0 Tryz.ntmps52 ?_
   refine⟨?_,hX2 w (hEv.trans hxy1) (by omega)⟩
   unfold zbu zc1
   rw[if_neg h1,if_pos h28,List.map_append]
   exact hown2.row
 have d28:decide (d.ty=28)=false:=decide_eq_false h28
 refine go (an6 s1 s3 p0 d1 d28 (Nat.zero_add 0)) ?_
 refine rc (an3 s1 p0 (Nat.zero_add 0)) (zjU v1 d.ty) ?_
 rintro _ v2 ⟨rfl,hE2'⟩
 have hb':=hE2'.at hb
 have qv2:zad v2 (some ⟨bv,0,Option.none⟩)=some sv:=zaa hb' rfl
 have hs2v:=hE2'.size
 cases hkn:(zbI d.ty tyTab).2 with
 |true=>
  refine rgo (an2 s3 qv2) ?_
  refine rt0 Tryz.ntmps52 ?_
  refine⟨?_,hEv.trans hE2'⟩
  unfold zbu zc1
  rw[if_neg h1,if_neg h28,if_pos hkn,List.append_nil]
  exact(hown.ext hE2').row
 |false=>
 have p4':=zab hE2' p4
 refine rgo (an2 s1 s3) ?_
 have k4:Keep (fun i=>i=bv∨B≤i) w2 v2:=k3.trans (hE2'.mono fun _ _ h=>h.elim)
 have hVb:VarT B bv v2 (zbA d):=hVa.ext hE2'
 have hnr:=hS.nr
 refine zav (Q:=fun e σ' ds' v'=>e= .normal∧ds'=[]∧σ' 1= .pointer (some ⟨bd,0,Option.none⟩)∧σ' 3= .pointer (some ⟨bv,0,Option.none⟩)∧VarT B bv v' (zbA d++ [[92,35],Lib.itoa (d.raw.length:Nat)])∧Keep (fun i=>i=bv∨B≤i) w2 v') ?_ ?_
 ·obtain⟨hEv,_,hBv⟩:=old k4
  have hown:=hown.ext hE2'
  refine zaS (fun i=>i==7) [(0,true),(1,true),(2,true),(3,true),(4,false),(5,false),(6,false),(7,false)] (zdx B) mixed (by kernel_rfl) ?_;intro gd K x hgd hx hxe hK;have hx0:=zaP hxe;clear hxe
  have qvx:=zab hx0 qv2
  have p4x:=zab hx0 p4'
  have hsx0:=hx0.size
  simp (disch:=first|omega|assumption|rfl) only[go_sem,s1,s3,qvx,p4x,Nat.zero_add]
  refine⟨zbw o2,zbw o1,?_⟩
  refine Fn.mono (zhG (hW.ext (hEv.trans hx0)) (d.raw.length:Nat) (by omega) (by omega)) ?_
  rintro _ y0 ⟨rfl,hy0⟩
  refine⟨.inr hy0.keep,?_⟩
  simp (disch:=first|omega|assumption|rfl) only[go_sem]
  refine zjJ (z:=vs []) (u:=vs [92,35]) (v:=vs (Lib.itoa (d.raw.length:Nat))) rfl rfl rfl rfl rfl rfl ?_
  intro y1 hy1 hys1 hyo
  refine⟨.inr hy1.keep,?_⟩
  simp (disch:=first|omega|assumption|rfl) only[go_sem]
  have hsy0:=hy0.size
  have hxy1:=(hx0.trans hy0).trans hy1
  refine za2 (e:=9) (hown.ext hxy1) hyo.row rfl rfl rfl rfl rfl rfl (vr0) (vr0) (fun q hq=>by simp at hq;rcases hq with rfl|rfl<;>rfl) (by simp;omega) (by decide) (by omega) ?_
  intro sv' y2 hown2 hX2 hK2 hb2
  refine⟨.inr (hK2.mono fun b _ hb=>by have:=(hown.ge hb).1;show _≤_;omega),?_⟩
  simp (disch:=first|omega|assumption|rfl) only[go_sem,s3]
  have hs2:=hK2.size
  have hb2Y:=(hK2.block bv (by omega) (fun hh=>by have:=(hown.ge hh).1;omega)).trans (Ext.at hxy1 hb')
  refine zan (P:=Tryz.prog) rfl rfl (by obtain⟨a,c,rfl⟩:=hown2.slice;rfl) hb2Y (by simp) (by simp) ?_
  intro y3 hs3' hb3 hk3
  refine⟨.inl rfl,?_⟩
  simp (disch:=first|omega|assumption|rfl) only[go_sem]
  refine hK _ _ ?_;clear hK hgd;clear K;try clear gd
  refine⟨rfl,rfl,(vq1 s1),(vq1 s3),⟨sv',hb3,?_⟩,?_⟩
  ·rw[List.map_append]
   exact hown2.keep hk3 (fun b hb h=>by have:=(hown2.ge hb).1;omega)
  ·exact k4.trans (((hxy1.mono fun _ _ h=>h.elim).trans (hK2.mono fun b _ hb=> .inr (hown.ge hb).1)).trans (hk3.mono fun b _ hb=> .inl hb))
 clear hVb k4 p4' qv2 qv hb hb' s1 s3 p0 p1 p3 p4
 rintro _ σ _ v3 ⟨rfl,rfl,s1,s3,hVb,k4⟩
 obtain⟨p0,p1,p3,p4⟩:=q0 k4
 obtain⟨hEv3,_,hBv3⟩:=old k4
 obtain⟨sv3,hb,hown⟩:=hVb.ex
 have qv:zad v3 (some ⟨bv,0,Option.none⟩)=some sv3:=zaa hb rfl
 have hwd:∀r,(d.raw.length=0→r=[])→(d.raw.length≠0→r=[hexT d.raw])→zbu fx d=(zbA d++ [[92,35],Lib.itoa (d.raw.length:Nat)])++r:=fun r h0 h3=>by
  unfold zbu zc1
  rw[if_neg h1,if_neg h28,if_neg (by rw[hkn];decide),List.append_assoc]
  by_cases hz:d.raw.length=0
  ·rw[if_pos hz,h0 hz]
  ·rw[if_neg hz,h3 hz]
 by_cases hz:d.raw.length=0
 ·refine go (an6 s1 s3 p4 qv (show decide ((0:Int)<(d.raw.length:Int))=false from decide_eq_false (by omega)) (Nat.zero_add 4)) ?_
  refine rt0 Tryz.ntmps52 ?_
  refine⟨?_,hEv3⟩
  rw[hwd [] (fun _=>rfl) (fun h=>absurd hz h),List.append_nil]
  exact hown.row
 ·refine go (an6 s1 s3 p4 qv (show decide ((0:Int)<(d.raw.length:Int))=true from decide_eq_true (by omega)) (Nat.zero_add 4)) ?_
  refine zaS (fun i=>i==6) [(0,true),(1,true),(2,true),(3,false),(4,false),(5,false),(6,false)] (zdx B) mixed (by kernel_rfl) ?_;intro gd K x hgd hx hxe hK;have hx0:=zaP hxe;clear hxe
  have qvx:=zab hx0 qv
  have p4x:=zab hx0 p4
  have hsx0:=hx0.size
  simp (disch:=first|omega|assumption|rfl) only[go_sem,s1,s3,qvx,p4x,Nat.zero_add]
  refine⟨zbw o2,zbw o1,?_⟩
  refine Fn.mono (hex_ok (l:=d.raw) (hrv▸((hraw.ext (hEv3.trans hx0)):Row _ rw' _)) (by omega)) ?_
  rintro _ y0 ⟨rfl,hy0⟩
  refine⟨.inr hy0.keep,?_⟩
  simp (disch:=first|omega|assumption|rfl) only[go_sem]
  refine za5 (z:=vs []) rfl rfl rfl rfl rfl ?_
  intro y1 hy1 hys1 hyo
  refine⟨.inr hy1.keep,?_⟩
  simp (disch:=first|omega|assumption|rfl) only[go_sem]
  have hsy0:=hy0.size
  have hxy1:=(hx0.trans hy0).trans hy1
  refine za2 (e:=9) (hown.ext hxy1) hyo.row rfl rfl rfl rfl rfl rfl (vr0) (vr0) (fun q hq=>by simp at hq;subst hq;rfl) (by simp;omega) (by decide) (by omega) ?_
  intro sv' y2 hown2 hX2 hK2 hb2
  refine⟨.inr (hK2.mono fun b _ hb=>by have:=(hown.ge hb).1;show _≤_;omega),?_⟩
  simp (disch:=first|omega|assumption|rfl) only[go_sem,s3]
  have hs2:=hK2.size
  have hb2Y:=(hK2.block bv (by omega) (fun hh=>by have:=(hown.ge hh).1;omega)).trans (Ext.at hxy1 hb)
  refine zan (P:=Tryz.prog) rfl rfl (by obtain⟨a,c,rfl⟩:=hown2.slice;rfl) hb2Y (by simp) (by simp) ?_
  intro y3 hs3' hb3 hk3
  refine⟨.inl rfl,?_⟩
  simp (disch:=first|omega|assumption|rfl) only[go_sem]
  refine hK _ _ ?_;clear hK hgd;clear K;try clear gd
  have q3:zad y3 (some ⟨bv,0,Option.none⟩)=some sv':=zaa hb3 rfl
  refine go (an2 s3 q3) ?_
  refine rt0 Tryz.ntmps52 ?_
  refine⟨?_,Keep.to_ext (hX2 w (hEv3.trans hxy1) (by omega)) rfl (fun b hb=>by omega) hk3⟩
  rw[hwd [hexT d.raw] (fun h=>absurd h hz) (fun _=>rfl),List.map_append]
  exact(hown2.keep hk3 (fun b hb h=>by have:=(hown2.ge hb).1;omega)).row
def zbp(fx:Nat→Lab)(d:DatL):Lab:=zaU [32] (zbu fx d)
theorem zdY{n:Nm}(h:∀l∈n,l.length≤1000)(hn:n.length≤1000):(za7 n).length≤5000000:=by
 unfold za7
 split
 ·decide
 ·have:∀m:Nm,(∀l∈m,l.length≤1000)→(m.flatMap fun l=>zas l++ [46]).length≤4001*m.length:=fun m=>by
   induction m with
   |nil=>intro _;exact Nat.zero_le _
   |cons l m ih=>
    intro h
    have h1:=ih fun x hx=>h x (List.mem_cons_of_mem _ hx)
    have h2:=h l (List.mem_cons_self ..)
    have h3:=zce l
    rw[List.flatMap_cons,List.length_append,List.length_append,show([46]:Lab).length=1 from rfl]
    show _≤4001*(m.length+1)
    omega
  have:=this n h
  have h2:4001*n.length≤4001*1000:=Nat.mul_le_mul_left _ hn
  omega
theorem zd9(a b:List Lab):zaz (a++b)=zaz a+zaz b:=by unfold zaz;rw[List.map_append,List.sum_append]
theorem zc8{α:Type}{f:α→Lab}{m:Nat}{l:List α}(h:∀x∈l,(f x).length≤m):zaz (l.map f)≤m*l.length:=by
 have:=zbG (m:=m) (l:=l.map f) fun y hy=>by
  obtain⟨x,hx,rfl⟩:=List.mem_map.1 hy
  exact h x hx
 rwa [List.length_map]at this
structure DatT(d:DatL):Prop where
 s:DatS d
 nn:d.names.length≤20
theorem zfF{fx:Nat→Lab}(hfx:∀u,u<65536→(fx u).length≤100){d:DatL}(h:DatT d):(zbu fx d).length≤10000∧zaz (zbu fx d)≤200000000:=by
 have hS:=h.s
 have g1:zaz (d.names.map za7)≤5000000*d.names.length:=zc8 fun n hn=>zdY (hS.names n hn).1 (hS.names n hn).2
 have g2:zaz (zb5 d)≤20*d.nums.length:=zc8 fun n hn=>ze9 (hS.nv n hn).2
 have g3:zaz (d.texts.map quoT)≤4002*d.texts.length:=zc8 fun t ht=>by
  have h1:=zdO t
  have h2:=hS.tx t ht
  unfold quoT
  rw[List.length_cons,List.length_append]
  show _+1+1≤_
  omega
 have a1:5000000*d.names.length≤5000000*20:=Nat.mul_le_mul_left _ h.nn
 have a2:20*d.nums.length≤20*1000:=Nat.mul_le_mul_left _ hS.nu
 have a3:4002*d.texts.length≤4002*1000:=Nat.mul_le_mul_left _ hS.nt
 have gr:∀(fm:Nat→Lab) (k:Nat) (sep:Lab),1≤k→k≤2→sep.length=1→(∀u,u<65536→(fm u).length≤100)→(zck fm k sep d.raw).length≤300000:=fun fm k sep hk hk2 hs hf=>by
  have hxl:(zaM k d.raw).length≤2001:=by
   have:=hS.nr
   rw[zbY]
   exact Nat.le_trans (Nat.div_le_self _ _) (by omega)
  have hb:zaz ((zaM k d.raw).map fun x=>fm (valB x))≤100*(zaM k d.raw).length:=zc8 fun x hx=>hf _ (zgz (k:=2) (by
   unfold zaM at hx
   obtain⟨i,_,rfl⟩:=List.mem_map.1 hx
   rw[List.length_take];omega))
  have hj:∀l:List Lab,(zaU sep l).length≤l.length+zaz l:=fun l=>by
   cases l with
   |nil=>exact Nat.zero_le _
   |cons x r=>
    have:=zff sep r
    have e:zaz (x::r)=x.length+zaz r:=by simp[zaz]
    show(x++_).length≤_
    rw[List.length_append,this,hs,e,List.length_cons];omega
  have:=hj ((zaM k d.raw).map fun x=>fm (valB x))
  rw[List.length_map]at this
  unfold zck
  omega
 have gt:(zc1 fx d).length≤3∧zaz (zc1 fx d)≤1000000:=by
  unfold zc1
  split
  ·refine⟨by simp,?_⟩
   have:=gr Lib.decDigits 1 [46] (by decide) (by decide) rfl (fun u hu=>by have:=zaQ 4 u (by omega);omega)
   simp[zaz];omega
  ·split
   ·refine⟨by simp,?_⟩
    have:=gr fx 2 [58] (by decide) (by decide) rfl hfx
    simp[zaz];omega
   ·split
    ·exact⟨by decide,by decide⟩
    ·have hi:(Lib.itoa (d.raw.length:Nat)).length≤20:=by
      rw[zda]
      have:=zaQ 19 d.raw.length (by have:=hS.nr;omega)
      omega
     have hx:=zcy d.raw
     have:=hS.nr
     rw[zd9,List.length_append]
     split
     ·exact⟨by simp,by simp[zaz];omega⟩
     ·exact⟨by simp,by simp[zaz];omega⟩
 have gf:(zbA d).length≤3000+20∧zaz (zbA d)≤110000000:=by
  have hn:=h.nn
  have hu:=hS.nu
  have ht:=hS.nt
  have hw:(zb5 d).length=d.nums.length:=by unfold zb5;rw[List.length_map]
  unfold zbA
  simp only[zd9,List.length_append,List.length_map]
  split
  ·have e:zaz ([]:List Lab)=0:=rfl
   rw[e,hw]
   exact⟨by simp;omega,by omega⟩
  ·have e:zaz ([]:List Lab)=0:=rfl
   rw[e,hw]
   exact⟨by simp;omega,by omega⟩
 unfold zbu
 rw[List.length_append,zd9]
 omega
theorem DText_ok{w:World}(hW:WY w){cs:List Value}{d:DatL}(hD:DatAt w cs d)(hS:DatT d){fx:Nat→Lab}(hfx:∀u,u<65536→(fx u).length≤100)
  (hF:∀v u,WY v→u<65536→Fn Tryz.prog 26 #[.int .u64 (u:Nat),vi 16] v (fun r v'=>r=vs (fx u)∧Ext v v')):
  Fn Tryz.prog 28 #[.agg cs.toArray] w (fun u w'=>u=vs (zbp fx d)∧Ext w w'):=by
 obtain⟨nm,nu,tx,rw',rfl,_⟩:=hD.ex
 obtain⟨l1,l2⟩:=zfF hfx hS
 refine enter Tryz.func28 Tryz.ntmps28 rfl rfl ?_
 refine go trivial ?_
 refine zam ?_
 intro w1 hE1 hz1 hA
 have hcs:zaq w1 (some ⟨w.heap.size,0,Option.none⟩) 5=some [vi d.ty,nm,nu,tx,rw']:=zai (n:=5) hA rfl
 refine rc hcs (words_ok (hW.ext hE1) (hD.ext hE1) hS.s hfx hF) ?_
 rintro v w2 ⟨hR,hE2⟩
 refine rd trivial (zgY (sep:=[32]) hR (by omega) (by decide) (by decide) (by omega)) ?_
 rintro _ w3 ⟨rfl,hE3⟩
 refine rgo trivial ?_
 refine rt0 Tryz.ntmps28 ?_
 exact⟨rfl,(hE1.trans hE2).trans hE3⟩
def hexU(n:Nat):Lab:=if h:n<16 then [hexD n] else hexU (n / 16)++ [hexD (n % 16)]
decreasing_by omega
theorem zcj{n:Nat}(h:n<16):hexU n=[hexD n]:=by rw[hexU,dif_pos h]
theorem zea{n:Nat}(h:¬n<16):hexU n=hexU (n / 16)++ [hexD (n % 16)]:=by rw[hexU,dif_neg h]
theorem zdc:∀(k n:Nat),n<16 ^ (k+1)→(hexU n).length≤k+1
 |0,n,h=>by rw[zcj (by omega)];exact Nat.le_refl _
 |k+1,n,h=>by
  by_cases h1:n<16
  ·rw[zcj h1];show 1≤_;omega
  ·have:=zdc k (n / 16) (by rw[Nat.pow_succ]at h;omega)
   rw[zea h1,List.length_append]
   show _+1≤_
   omega
theorem ix_dig{k:Nat}(h:k<16):ixSD (some .string) (.string ⟨#[48,49,50,51,52,53,54,55,56,57,97,98,99,100,101,102,103,104,105,106,107,108,109,110,111,112,113,114,115,116,117,118,119,120,121,122]⟩) (.int .u64 (k:Int))=some (zao (hexD k)):=by
 have:=(by decide+kernel:∀k,k<16→([48,49,50,51,52,53,54,55,56,57,97,98,99,100,101,102,103,104,105,106,107,108,109,110,111,112,113,114,115,116,117,118,119,120,121,122]:Lab)[k]? =some (hexD k)) k h
 obtain⟨h1,h2⟩:=List.getElem?_eq_some_iff.1 this
 have h3:((k:Nat):Int).toNat<([48,49,50,51,52,53,54,55,56,57,97,98,99,100,101,102,103,104,105,106,107,108,109,110,111,112,113,114,115,116,117,118,119,120,121,122]:Lab).length:=by rw[Int.toNat_natCast];exact h1
 show ixSD (some .string) (vs [48,49,50,51,52,53,54,55,56,57,97,98,99,100,101,102,103,104,105,106,107,108,109,110,111,112,113,114,115,116,117,118,119,120,121,122]) (.int .u64 (k:Int))=_
 rw[zhU (by omega) h3]
 simp only[Int.toNat_natCast,h2]
 rfl
theorem zhC{P:Program}{t:TypeId}{n:Nat}(h:n<65536):binV P .and t (.int .u64 (n:Int)) (.int .u64 15)=some (.int .u64 ((n % 16:Nat):Int)):=by
 show some (Value.int .u64 (IntKind.u64.wrap ((BitVec.ofInt 64 (n:Int) &&& BitVec.ofInt 64 15).toNat:Int)))=_
 have e:(BitVec.ofInt 64 (n:Int) &&& BitVec.ofInt 64 15).toNat=n % 16:=by
  rw[BitVec.toNat_and,BitVec.ofInt_natCast,BitVec.toNat_ofNat,Nat.mod_eq_of_lt (by omega),show(BitVec.ofInt 64 15).toNat=2 ^ 4 - 1 from rfl,Nat.and_two_pow_sub_one_eq_mod]
 rw[e,zcV (by omega) (by omega)]
theorem b_shr4u{P:Program}{t:TypeId}{n:Nat}:binV P .shr t (.int .u64 (n:Int)) (.int .u64 4)=some (.int .u64 ((n / 16:Nat):Int)):=by
 show some (Value.int .u64 (Int.fdiv (n:Int) (2 ^ (min (Int.toNat 4) 64))))=_
 have:(2:Int) ^ (min (Int.toNat 4) 64)=((16:Nat):Int):=by decide
 rw[this,Int.fdiv_eq_ediv_of_nonneg _ (by omega)];rfl
theorem trail64v(w:World)(h:w.cell? ⟨3,15,Option.none⟩=some (.int .u8 4)):Calls Tryz.prog 117 #[.int .u64 16] w (fun e w'=>e= .returned (.int .i64 4)∧w'=w):=by
 have h':w.cell? ⟨3,(IntKind.u64.wrap (bits BinOp.and IntKind.u64 16 (IntKind.u64.wrap (-16))*285870213051353865) / 288230376151711744).toNat,Option.none⟩=some (.int .u8 4):=by
  rw[show (IntKind.u64.wrap (bits BinOp.and IntKind.u64 16 (IntKind.u64.wrap (-16))*285870213051353865) / 288230376151711744).toNat=15 by kernel_rfl]
  exact h
 go_enter Tryz.func117,Tryz.ntmps117
 go_wp2
 all_goals (go_ret;exact⟨rfl,rfl⟩)
theorem trail16v(w:World)(h:w.cell? ⟨3,15,Option.none⟩=some (.int .u8 4)):Fn Tryz.prog 97 #[.int .u64 16] w (fun v w'=>v=vi 4∧w=w'):=by
 have:Calls Tryz.prog 97 #[.int .u64 16] w (fun e w'=>e= .returned (.int .i64 4)∧w'=w):=by
  go_enter Tryz.func97,Tryz.ntmps97
  go_wp2_with (go_at_call 117;refine(trail64v _ h).mono ?_)
  rintro e w2 ⟨rfl,rfl⟩
  go_wp2
  go_ret
  exact⟨rfl,rfl⟩
 exact Fn.of_calls (this.mono fun _ _ ⟨he,hw⟩=>⟨_,he,rfl,hw.symm⟩)
structure Dig(b i:Nat)(w:World)(D:Lab):Prop where
 ex:∃cur T,w.heap[b]? =some (.cells cur T (0,0))∧cur.size=65∧i+D.length=65∧∀j (h:j<D.length),cur[i+j]? =some (zao D[j])
theorem Dig.push{b i:Nat}{w2:World}{D:Lab}{c:UInt8}{cur:Array Value}{T:TypeId}(hsz:cur.size=65)(hi:1≤i)(hil:i+D.length=65)(hat:∀j (h:j<D.length),cur[i+j]? =some (zao D[j]))(h2:w2.heap[b]? =some (.cells (cur.setIfInBounds (i - 1) (zao c)) T (0,0))):Dig b (i - 1) w2 (c::D):=by
 refine⟨_,_,h2,by simpa using hsz,by rw[List.length_cons];omega,fun j hj=>?_⟩
 cases j with
 |zero=>
  rw[Nat.add_zero,Array.getElem?_setIfInBounds_self_of_lt (by omega)];rfl
 |succ j=>
  rw[Array.getElem?_setIfInBounds_ne (by omega),show i - 1+(j+1)=i+j by omega]
  exact hat j (by simpa using hj)
theorem zjM{w:World}(hW:WY w){n:Nat}(hn:n<65536):Fn Tryz.prog 72 #[.slice Option.none 0 0,.int .u64 (n:Nat),vi 16,.bool false,.bool false] w (fun v w'=>(∃l,v= .tuple #[l,vs (hexU n)])∧Ext w w'):=by
 have d1:decide ((16:Int)<2)=false:=rfl
 have d2:decide ((16:Int)=10)=false:=rfl
 have d3:decide ((36:Int)<16)=false:=rfl
 refine enter Tryz.func72 Tryz.ntmps72 rfl rfl ?_
 refine go trivial ?_
 refine rgg [(2,21),(6,25)] (an3 d1 d2 d3) ?_
 refine go trivial ?_
 refine zam ?_
 intro w1 hE1 hs1 hA
 refine rc trivial (isPow16F w1) ?_
 rintro _ _ ⟨rfl,rfl⟩
 have hw16:IntKind.u64.wrap 16=16:=rfl
 have hw15:IntKind.u64.wrap (16 - 1)=15:=rfl
 have hw4:IntKind.u64.wrap 4=4:=rfl
 refine rgo trivial ?_
 refine rc hw16 (trail16v w1 (hW.ext hE1).tz) ?_
 rintro _ _ ⟨rfl,rfl⟩
 refine rgo (an3 hw16 hw15 hw4) ?_
 refine zav (Q:=fun e σ ds v=>e= .exit 0∧ds=[]∧∃m i D,m<16∧hexU n=hexU m++D∧1≤i∧σ 1= .int .u64 (m:Nat)∧σ 3= .bool false∧σ 4= .bool false∧σ 12= .pointer (some ⟨w.heap.size,0,Option.none⟩)∧σ 13=vi (i:Nat)∧Dig w.heap.size i v D∧Ext w v) ?_ ?_
 ·refine zbg (fun j σ ds v=>ds=[]∧∃m i D,m<16 ^ (j+1)∧j≤3∧hexU n=hexU m++D∧i+3=65+j∧σ 1= .int .u64 (m:Nat)∧σ 3= .bool false∧σ 4= .bool false∧σ 12= .pointer (some ⟨w.heap.size,0,Option.none⟩)∧σ 13=vi (i:Nat)∧σ 14= .int .u64 4∧σ 15= .int .u64 16∧σ 16= .int .u64 15∧Dig w.heap.size i v D∧Ext w v) 3 ?_ ?_
  ·exact⟨rfl,n,65,[],by simpa using hn,by decide,by simp,by decide,vr0,vr0,vr0,vr0,vr0,vr0,vr0,vr0,⟨_,_,hA,rfl,rfl,fun j h=>absurd h (by simp)⟩,hE1⟩
  ·rintro j σ ds v ⟨rfl,m,i,D,hm,hj,hD,hi,s1,s3,s4,s12,s13,s14,s15,s16,hdg,hE⟩
   by_cases hlt:m<16
   ·have dd:decide ((16:Int)≤(m:Int))=false:=decide_eq_false (by omega)
    refine go (an9 s1 s3 s4 s12 s13 s14 s15 s16 dd) ?_
    exact⟨rfl,rfl,m,i,D,hlt,hD,by omega,(vq1 s1),(vq1 s3),(vq1 s4),(vq1 s12),(vq1 s13),hdg,hE⟩
   have dd:decide ((16:Int)≤(m:Int))=true:=decide_eq_true (by omega)
   have hj1:1≤j:=by
    rcases Nat.eq_zero_or_pos j with rfl|h
    ·simp at hm;omega
    ·exact h
   have hm6:m<65536:=Nat.lt_of_lt_of_le hm (Nat.pow_le_pow_right (j:=4) (by decide) (by omega))
   obtain⟨cur,T,hb,hsz,hil,hat⟩:=hdg.ex
   have hi1:(i:Int) - 1=((i - 1:Nat):Int):=by omega
   refine go (an9 s1 s3 s4 s12 s13 s14 s15 s16 (an2 dd hi1)) ?_
   have ha:=zhC (P:=Tryz.prog) (t:=71) hm6
   have ha2:=zhC (P:=Tryz.prog) (t:=159) hm6
   have hix:=ix_dig (k:=m % 16) (by omega)
   have z1:(0:Int)≤((i - 1:Nat):Int):=by omega
   have l1:((i - 1:Nat):Int)<((65:Nat):Int):=by omega
   have hsh:=b_shr4u (P:=Tryz.prog) (t:=71) (n:=m)
   refine rq ?_;intro gd K hgd hK
   try simp (disch:=first|omega|assumption|rfl) only[go_sem,s1,s12,s16,ha,ha2,hix,z1,l1,Nat.zero_add]
   refine zan (P:=Tryz.prog) (b:=w.heap.size) (j:=i - 1) rfl rfl rfl hb (by omega) (.inl (Nat.zero_le _)) ?_
   intro w2 hs2 hb2 hk2
   try simp only[go_sem]
   refine hK _ _ ?_;clear hK hgd;clear K;try clear gd
   have hE2:Ext w w2:=Keep.to_ext hE rfl (fun b (hb:b=w.heap.size)=>by omega) hk2
   refine go (an9 s1 s3 s4 s12 s13 s14 s15 s16 hsh) ?_
   refine⟨j - 1,by omega,rfl,m / 16,i - 1,hexD (m % 16)::D,?_,by omega,?_,by omega,vr0,(vq1 s3),(vq1 s4),(vq1 s12),vr0,(vq1 s14),(vq1 s15),(vq1 s16),Dig.push hsz (by omega) hil hat hb2,hE2⟩
   ·rw[Nat.pow_succ]at hm
    rw[show j - 1+1=j by omega]
    revert hm
    generalize 16 ^ j=q
    intro hm
    omega
   ·rw[hD,zea hlt,List.append_assoc];rfl
 rintro _ σ _ v ⟨rfl,rfl,m,i,D,hlt,hD,hi0,s1,s3,s4,s12,s13,hdg,hE⟩
 obtain⟨cur,T,hb,hsz,hil,hat⟩:=hdg.ex
 have hi1:(i:Int) - 1=((i - 1:Nat):Int):=by omega
 have hix:=ix_dig (k:=m) hlt
 have z1:(0:Int)≤((i - 1:Nat):Int):=by omega
 have l1:((i - 1:Nat):Int)<((65:Nat):Int):=by omega
 refine go (an6 s1 s3 s4 s12 s13 hi1) ?_
 refine rq ?_;intro gd K hgd hK
 try simp (disch:=first|omega|assumption|rfl) only[go_sem,s1,s12,hix,z1,l1,Nat.zero_add]
 refine zan (P:=Tryz.prog) (b:=w.heap.size) (j:=i - 1) rfl rfl rfl hb (by omega) (.inl (Nat.zero_le _)) ?_
 intro w2 hs2 hb2 hk2
 try simp only[go_sem]
 refine hK _ _ ?_;clear hK hgd;clear K;try clear gd
 have hE2:Ext w w2:=Keep.to_ext hE rfl (fun b (hb:b=w.heap.size)=>by omega) hk2
 obtain⟨cur2,T2,hb2',hsz2,hil2,hat2⟩:=(Dig.push (c:=hexD m) hsz hi0 hil hat hb2).ex
 have hfin:hexU n=hexD m::D:=by rw[hD,zcj hlt];rfl
 have hlen:(hexU n).length=65 - (i - 1):=by rw[hfin,List.length_cons];omega
 have hadd:(⟨w.heap.size,0,Option.none⟩:Addr).add (i - 1)=⟨w.heap.size,i - 1,Option.none⟩:=by simp[Addr.add];omega
 refine go (an3 s3 s4 s12) ?_
 refine rq ?_;intro gd K hgd hK
 try simp (disch:=first|omega|assumption|rfl) only[go_sem,s12]
 refine op_slAl (n:=65) (l:=i - 1) (a:=⟨w.heap.size,0,Option.none⟩) rfl (by decide) rfl rfl (by omega) ((vq1 s12)) (vr0) ?_
 try simp only[go_sem]
 refine zb7 (l:=hexU n) (a:=some ⟨w.heap.size,i - 1,Option.none⟩) (c:=65 - (i - 1)) rfl rfl rfl (by rw[hlen,←hadd];first| (simp only[go_sem];done)| (simp only[go_sem];rfl)) (fun j hj=>?_) ?_
 ·have hj2:j<(hexD m::D).length:=by rw[←hfin];exact hj
  have h3:zad w2 (some ⟨w.heap.size,i - 1+j,Option.none⟩)=some (zao (hexD m::D)[j]):=zaa hb2' (hat2 j hj2)
  rw[zaZ]
  simp only[hfin]
  exact h3
 try simp only[go_sem]
 refine hK _ _ ?_;clear hK hgd;clear K;try clear gd
 repeat refine c_r ?_
 refine zaf (.inr rfl) Tryz.ntmps72 rfl (zac (vr0) (zac (v:=vs (hexU n)) (vr0) zae)) ?_
 exact⟨⟨_,rfl⟩,hE2⟩
theorem zgv{w:World}(hW:WY w)(u:Nat)(hu:u<65536):Fn Tryz.prog 26 #[.int .u64 (u:Nat),vi 16] w (fun v w'=>v=vs (hexU u)∧Ext w w'):=by
 have d1:decide ((16:Int)=10)=false:=rfl
 have inner:Fn Tryz.prog 49 #[.int .u64 (u:Nat),vi 16] w (fun v w'=>v=vs (hexU u)∧Ext w w'):=by
  refine enter Tryz.func49 Tryz.ntmps49 rfl rfl ?_
  refine go d1 ?_
  refine rc trivial (zjM hW hu) ?_
  rintro _ w1 ⟨⟨l,rfl⟩,hE1⟩
  refine rgo trivial ?_
  refine rt0 Tryz.ntmps49 ?_
  exact⟨rfl,hE1⟩
 refine enter Tryz.func26 Tryz.ntmps26 rfl rfl ?_
 refine go trivial ?_
 refine rc trivial inner ?_
 rintro _ w1 ⟨rfl,hE1⟩
 refine rgo trivial ?_
 refine rt0 Tryz.ntmps26 ?_
 exact⟨rfl,hE1⟩
theorem zg0{w:World}(hW:WY w){cs:List Value}{d:DatL}(hD:DatAt w cs d)(hS:DatT d):Fn Tryz.prog 28 #[.agg cs.toArray] w (fun u w'=>u=vs (zbp hexU d)∧Ext w w'):=
 DText_ok hW hD hS (fun u hu=>by have:=zdc 3 u (by simpa using hu);omega) (fun _ u hv hu=>zgv hv u hu)
def tyT(k:Int):Lab:=if (zbI k tyTab).2=true then(zbI k tyTab).1 else [84,89,80,69]++Lib.itoa k
theorem zfh{n:Int}(h0: -9223372036854775808≤n)(h1:n≤9223372036854775807):(Lib.itoa n).length≤30:=by
 unfold Lib.itoa
 split
 ·have:=zaQ 19 n.natAbs (by omega)
  have:=zaQ 19 (-n).toNat (by omega)
  simp only[List.length_cons]
  omega
 ·have:=zaQ 19 n.toNat (by omega)
  omega
theorem TText_ok{w:World}(hW:WY w)(k:Int)(h0: -9223372036854775808≤k)(h1:k≤9223372036854775807):Fn Tryz.prog 27 #[vi k] w (fun u w'=>u=vs (tyT k)∧Ext w w'):=by
 refine enter Tryz.func27 Tryz.ntmps27 rfl rfl ?_
 refine go trivial ?_
 refine rc trivial (zdX w) ?_
 rintro v w1 ⟨hR,hE1⟩
 refine rd trivial (zjq hR (by decide) k) ?_
 rintro _ w2 ⟨rfl,hE2⟩
 have hE12:=hE1.trans hE2
 have hi:=zfh h0 h1
 unfold tyT
 cases hf:(zbI k tyTab).2 with
 |true=>
  refine rgo hf ?_
  rw[if_pos rfl]
  refine rt0 Tryz.ntmps27 ?_
  exact⟨rfl,hE12⟩
 |false=>
  refine rgo hf ?_
  rw[if_neg (by decide)]
  refine rc trivial (zhG (hW.ext hE12) k h0 h1) ?_
  rintro _ w3 ⟨rfl,hE3⟩
  have l1:([84,89,80,69]:Lab).length+(Lib.itoa k).length≤9223372036854775807:=by simp;omega
  refine rgo l1 ?_
  refine rt0 Tryz.ntmps27 ?_
  exact⟨rfl,hE12.trans hE3⟩
theorem tyT_len{k:Int}(h0: -9223372036854775808≤k)(h1:k≤9223372036854775807):(tyT k).length≤40:=by
 have h2:=zfh h0 h1
 have:∀T:List (Int×Lab),(∀x∈T,x.2.length≤5)→(zbI k T).1.length≤5:=fun T=>by
  induction T with
  |nil=>intro _;exact Nat.zero_le _
  |cons x T ih=>
   intro h
   unfold zbI
   split
   ·exact h x (List.mem_cons_self ..)
   ·exact ih fun y hy=>h y (List.mem_cons_of_mem _ hy)
 have h3:=this tyTab (by decide)
 unfold tyT
 split
 ·omega
 ·simp only[List.length_append,List.length_cons,List.length_nil];omega
theorem zfg(sep:Lab)(l:List Lab):(zaU sep l).length≤sep.length*l.length+zaz l:=by
 cases l with
 |nil=>exact Nat.zero_le _
 |cons x r=>
  have:=zff sep r
  have e:zaz (x::r)=x.length+zaz r:=by simp[zaz]
  show(x++_).length≤_
  rw[List.length_append,this,e,List.length_cons,Nat.mul_succ];omega
def recT(r:RecL):Lab:=zaU [32] [za7 r.owner,numT r.ttl,[73,78],tyT r.dat.ty,zbp hexU r.dat]
structure RecT(r:RecL):Prop where
 ow:(∀l∈r.owner,l.length≤1000)∧r.owner.length≤1000
 tl:0≤r.ttl∧r.ttl≤4294967295
 ty: -9223372036854775808≤r.dat.ty∧r.dat.ty≤9223372036854775807
 dat:DatT r.dat
theorem zdl{w:World}(hW:WY w){cs:List Value}{r:RecL}(hR:RecAt w cs r)(hT:RecT r):Fn Tryz.prog 11 #[.agg cs.toArray] w (fun u w'=>u=vs (recT r)∧Ext w w'):=by
 obtain⟨ow,ds,rfl,how,hD⟩:=hR.ex
 obtain⟨nm,nu,tx,rw',rfl,_⟩:=hD.ex
 obtain⟨u,hu⟩:∃u:Nat,r.ttl=u:=⟨r.ttl.toNat,by have:=hT.tl;omega⟩
 have hu2:=hT.tl
 refine enter Tryz.func11 Tryz.ntmps11 rfl rfl ?_
 repeat refine c_r ?_
 refine rg0 ?_
 repeat refine c_r ?_
 refine zam ?_
 intro w1 hE1 hz1 hA
 have c0:zad w1 (some ⟨w.heap.size,0,Option.none⟩)=some ow:=zaa hA rfl
 have c1:zad w1 (some ⟨w.heap.size,1,Option.none⟩)=some (.int .u32 (u:Int)):=by rw[←hu];exact zaa hA rfl
 have c2:zad w1 (some ⟨w.heap.size,2,Option.none⟩)=some (vi r.dat.ty):=zaa hA rfl
 have c3:zaq w1 (some ⟨w.heap.size,2,Option.none⟩) 5=some [vi r.dat.ty,nm,nu,tx,rw']:=zau (o:=2) (k:=5) hA (by simp)
 refine zaS (fun _=>false) [(0,true),(1,true),(3,true),(4,true),(5,true),(7,true),(8,true),(9,true),(11,true),(12,true),(2,false),(6,false),(10,false),(13,false),(14,false),(15,false),(16,true)] NoS mixed (by kernel_rfl) ?_;intro gd K x hgd hx hxe hK;have hx0:=zaP hxe;clear hxe
 have d0:=zab hx0 c0
 have d1:=zab hx0 c1
 have d2:=zab hx0 c2
 have d3:=zaj hx0 c3
 simp (disch:=first|omega|assumption|rfl) only[go_sem,d0,d1,d2,d3,Nat.zero_add]
 have hWx:=(hW.ext hE1).ext hx0
 have hEx:=hE1.trans hx0
 obtain⟨g1,g2⟩:=zfF (fx:=hexU) (fun u hu=>by have:=zdc 3 u (by simpa using hu);omega) hT.dat
 refine Fn.mono (zhF _ _ _ (how.ext hEx) (fun l hl=>by have:=hT.ow.1 l hl;omega) hT.ow.2) ?_
 rintro _ y1 ⟨rfl,hy1⟩
 refine⟨.inr hy1.keep,?_⟩
 have e1:=zab hy1 d1
 have e2:=zab hy1 d2
 have e3:=zaj hy1 d3
 simp (disch:=first|omega|assumption|rfl) only[go_sem,e1,e2,e3,Nat.zero_add]
 refine Fn.mono (zcu (hWx.ext hy1) u (by omega)) ?_
 rintro _ y2 ⟨rfl,hy2⟩
 refine⟨.inr hy2.keep,?_⟩
 have f2:=zab hy2 e2
 have f3:=zaj hy2 e3
 simp (disch:=first|omega|assumption|rfl) only[go_sem,f2,f3,Nat.zero_add]
 refine Fn.mono (TText_ok ((hWx.ext hy1).ext hy2) r.dat.ty hT.ty.1 hT.ty.2) ?_
 rintro _ y3 ⟨rfl,hy3⟩
 refine⟨.inr hy3.keep,?_⟩
 have g3:=zaj hy3 f3
 simp (disch:=first|omega|assumption|rfl) only[go_sem,g3,Nat.zero_add]
 refine Fn.mono (zg0 (((hWx.ext hy1).ext hy2).ext hy3) (hD.ext (((hEx.trans hy1).trans hy2).trans hy3)) hT.dat) ?_
 rintro _ y4 ⟨rfl,hy4⟩
 refine⟨.inr hy4.keep,?_⟩
 simp (disch:=first|omega|assumption|rfl) only[go_sem]
 have a1:=zdY hT.ow.1 hT.ow.2
 have a2:=zaQ 19 u (by omega)
 have a3:=tyT_len hT.ty.1 hT.ty.2
 have a4:(zbp hexU r.dat).length≤300000000:=by
  have:=zfg [32] (zbu hexU r.dat)
  unfold zbp
  rw[show ([32]:Lab).length=1 from rfl]at this
  omega
 obtain⟨xs,hxs⟩:∃xs:List Lab,[za7 r.owner,Lib.decDigits u,[73,78],tyT r.dat.ty,zbp hexU r.dat]=xs:=⟨_,rfl⟩
 have hxl:xs.length=5:=by rw[←hxs];rfl
 have hln:zaz xs≤1000000000:=by
  rw[←hxs]
  simp only[zaz,List.map_cons,List.map_nil,List.sum_cons,List.sum_nil,List.length_cons,List.length_nil]
  omega
 have hrt:recT r=zaU [32] xs:=by unfold recT numT;rw[←hxs,hu,Int.toNat_natCast]
 refine zft (z:=vs []) (l:=xs.map vs) (by rw[List.length_map,hxl]) (by rw[←hxs];rfl) rfl rfl rfl rfl (fun v hv=>by obtain⟨q,_,rfl⟩:=List.mem_map.1 hv;rfl) (by rw[List.length_map];omega) ?_
 intro y5 hy5 hys5 hyo
 refine⟨.inr hy5.keep,?_⟩
 simp (disch:=first|omega|assumption|rfl) only[go_sem]
 refine Fn.mono (zgY (sep:=[32]) hyo.row (by omega) (by decide) (by decide) hln) ?_
 rintro _ y6 ⟨rfl,hy6⟩
 refine⟨.inr hy6.keep,?_⟩
 simp (disch:=first|omega|assumption|rfl) only[go_sem]
 refine hK _ _ ?_;clear hK hgd;clear K;try clear gd
 repeat refine c_r ?_
 refine rt0 Tryz.ntmps11 ?_
 rw[hrt]
 exact⟨rfl,(((((hEx.trans hy1).trans hy2).trans hy3).trans hy4).trans hy5).trans hy6⟩
def NmT(n:Nm):Prop:=(∀l∈n,l.length≤1000)∧n.length≤1000
def digN(s:Lab):Nat:=((s.take 3).takeWhile digB).length
def escV(s:Lab):Nat:=match s with
 |a::b::c::_=>100*(a.toNat - 48)+10*(b.toNat - 48)+(c.toNat - 48)
 |_=>0
def escD(s:Lab):UInt8×Nat×Int:=if digN s=0 then(match s with
  | []=>(0,0,2)
  |c::_=>(c,1,0)) else if digN s=3 then(if 255<escV s then(0,0,7) else(UInt8.ofNat (escV s),3,0)) else(0,0,2)
def unD(bare:Lab):Nat→Lab→Lab→Lab×Int
 |_,[],acc=>(acc,0)
 |k+1,_::s,acc=>unD bare k s acc
 |0,c::s,acc=>if c=92 then(if (escD s).2.2=0 then unD bare (escD s).2.1 s (acc++ [(escD s).1]) else([],(escD s).2.2)) else if bare.contains c=true then([],2) else unD bare 0 s (acc++ [c])
def splD:Bool→Lab→Lab→List Lab×Bool
 |t,cur,[]=>([cur],t)
 |true,cur,c::s=>splD false (cur++ [c]) s
 |false,cur,c::s=>if c=92 then splD true (cur++ [c]) s else if c=46 then(cur::(splD false [] s).1,(splD false [] s).2) else splD false (cur++ [c]) s
def errP(p:Lab):Int:=if (unD [46] 0 p []).2=0 then errL (unD [46] 0 p []).1 else(unD [46] 0 p []).2
def labD(p:Lab):Lab×Int:=if errP p=0 then((unD [46] 0 p []).1,0) else([],errP p)
def zbF:Bool→List Lab→Nm→Nm×Bool×Int
 |_,[],out=>(out,false,0)
 |f,p::l,out=>if p=[]∧f=false∧l=[] then(out,true,0) else if (labD p).2=0 then zbF false l (out++ [(labD p).1]) else([],false,(labD p).2)
def zbl(s:Lab):Nm×Bool×Int:=if (splD false [] s).2=true then([],false,2) else zbF true (splD false [] s).1 []
def zaI(s:Lab)(o:Nm):Nm×Int:=
 if s=[64] then(o,0) else if s=[46] then([],0) else if s=[] then([],8) else
 if (zbl s).2.2=0 then(if zaX ((zbl s).1++if (zbl s).2.1=true then [] else o)=0 then((zbl s).1++(if (zbl s).2.1=true then [] else o),0) else([],zaX ((zbl s).1++if (zbl s).2.1=true then [] else o))) else([],(zbl s).2.2)
theorem zeL{k:Nat}(h:k<10):(UInt8.ofNat (48+k)).toNat=48+k:=by
 rw[UInt8.toNat_ofNat_of_lt' (by simp[UInt8.size];omega)]
theorem zef{k:Nat}(h:k<10):digB (UInt8.ofNat (48+k))=true:=by
 unfold digB;rw[zeL h];simp;omega
theorem zjs(c:UInt8)(r:Lab):escD ((escB c).tail++r)=(c,3,0):=by
 have hc:c.toNat<256:=c.toNat_lt
 have h1:=zeL (k:=c.toNat / 100) (by omega)
 have h2:=zeL (k:=c.toNat / 10 % 10) (by omega)
 have h3:=zeL (k:=c.toNat % 10) (by omega)
 have hd:digN ((escB c).tail++r)=3:=by
  unfold digN escB
  simp only[List.tail_cons,List.cons_append,List.nil_append,List.take_succ_cons,List.take_zero]
  rw[List.takeWhile_cons_of_pos (zef (by omega)),List.takeWhile_cons_of_pos (zef (by omega)),List.takeWhile_cons_of_pos (zef (by omega))]
  rfl
 have hv:escV ((escB c).tail++r)=c.toNat:=by
  unfold escV escB
  simp only[List.tail_cons,List.cons_append,List.nil_append,h1,h2,h3]
  omega
 unfold escD
 rw[hd,if_neg (by decide),if_pos rfl,hv,if_neg (by omega)]
 simp
theorem zgc{c:UInt8}(h:digB c=false)(r:Lab):escD (c::r)=(c,1,0):=by
 have hd:digN (c::r)=0:=by
  unfold digN
  rw[List.take_succ_cons,List.takeWhile_cons_of_neg (by rw[h];decide)]
  rfl
 unfold escD
 rw[hd,if_pos rfl]
theorem zi6{c:UInt8}(h:marksL.contains c=true):digB c=false:=by
 have:∀c∈marksL,digB c=false:=by decide
 exact this c (List.contains_iff_mem.1 h)
theorem un_lab(bare:Lab)(hb:∀c∈bare,c∈marksL)(c:UInt8)(r acc:Lab):unD bare 0 (labB c++r) acc=unD bare 0 r (acc++ [c]):=by
 unfold labB
 by_cases h1:c.toNat≤32∨127≤c.toNat
 ·rw[if_pos h1]
  have he:=zjs c r
  have e:escB c++r=92::((escB c).tail++r):=rfl
  rw[e,unD,if_pos rfl,he]
  simp only[if_true]
  have e2:(escB c).tail++r=UInt8.ofNat (48+c.toNat / 100)::UInt8.ofNat (48+c.toNat / 10 % 10)::UInt8.ofNat (48+c.toNat % 10)::r:=rfl
  rw[e2,unD,unD,unD]
 ·rw[if_neg h1]
  by_cases h2:marksL.contains c=true
  ·rw[if_pos h2]
   show unD bare 0 (92::(c::r)) acc=_
   rw[unD,if_pos rfl,zgc (zi6 h2)]
   simp only[if_true]
   rw[unD]
  ·rw[if_neg h2]
   have h92:¬c=92:=fun e=>h2 (by rw[e];decide)
   have hbc:¬bare.contains c=true:=fun e=>h2 (List.contains_iff_mem.2 (hb c (List.contains_iff_mem.1 e)))
   show unD bare 0 (c::r) acc=_
   rw[unD,if_neg h92,if_neg hbc]
theorem ziq(bare:Lab)(hb:∀c∈bare,c∈marksL):∀(l acc:Lab),unD bare 0 (zas l) acc=(acc++l,0)
 | [],acc=>by unfold zas unD;simp
 |c::l,acc=>by
  have e:zas (c::l)=labB c++zas l:=by unfold zas;rw[List.flatMap_cons]
  rw[e,un_lab bare hb,ziq bare hb l]
  simp
theorem spl_lab(c:UInt8)(cur r:Lab):splD false cur (labB c++r)=splD false (cur++labB c) r:=by
 unfold labB
 by_cases h1:c.toNat≤32∨127≤c.toNat
 ·rw[if_pos h1]
  have n1:=zeL (k:=c.toNat / 10 % 10) (by omega)
  have n2:=zeL (k:=c.toNat % 10) (by omega)
  have m1:¬UInt8.ofNat (48+c.toNat / 10 % 10)=92:=fun e=>by rw[e]at n1;simp at n1;omega
  have m2:¬UInt8.ofNat (48+c.toNat / 10 % 10)=46:=fun e=>by rw[e]at n1;simp at n1;omega
  have m3:¬UInt8.ofNat (48+c.toNat % 10)=92:=fun e=>by rw[e]at n2;simp at n2;omega
  have m4:¬UInt8.ofNat (48+c.toNat % 10)=46:=fun e=>by rw[e]at n2;simp at n2;omega
  unfold escB
  simp only[List.cons_append,List.nil_append,splD,if_true,m1,m2,m3,m4,if_false,List.append_assoc]
 ·rw[if_neg h1]
  by_cases h2:marksL.contains c=true
  ·rw[if_pos h2]
   simp only[List.cons_append,List.nil_append,splD,if_true,List.append_assoc]
  ·rw[if_neg h2]
   have m1:¬c=92:=fun e=>h2 (by rw[e];decide)
   have m2:¬c=46:=fun e=>h2 (by rw[e];decide)
   simp only[List.cons_append,List.nil_append,splD,m1,m2,if_false]
theorem zdN:∀(l cur r:Lab),splD false cur (zas l++r)=splD false (cur++zas l) r
 | [],cur,r=>by unfold zas;simp
 |c::l,cur,r=>by
  have e:zas (c::l)=labB c++zas l:=by unfold zas;rw[List.flatMap_cons]
  rw[e,List.append_assoc,spl_lab,zdN l,List.append_assoc]
theorem zg6:∀(n:Nm),splD false [] (n.flatMap fun l=>zas l++ [46])=(n.map zas++ [[]],false)
 | []=>rfl
 |l::n=>by
  rw[List.flatMap_cons,List.append_assoc,zdN]
  show splD false ([]++zas l) (46::n.flatMap fun l=>zas l++ [46])=_
  unfold splD
  rw[if_neg (by decide),if_pos rfl,zg6 n]
  simp
theorem spl_join(l:Lab):∀(n:Nm),splD false [] (zaU [46] ((l::n).map zas))=((l::n).map zas,false):=fun n=>by
 have:∀(n:Nm) (cur:Lab),splD false cur ((n.map zas).flatMap fun y=>[46]++y)=(cur::n.map zas,false):=fun n=>by
  induction n with
  |nil=>intro cur;rfl
  |cons m n ih=>
   intro cur
   rw[List.map_cons,List.flatMap_cons]
   show splD false cur (46::(zas m++_))=_
   unfold splD
   rw[if_neg (by decide),if_pos rfl,zdN,ih]
   simp
 show splD false [] (zas l++_)=_
 rw[zdN,this]
 simp
theorem zhj{l:Lab}(h:errL l=0):labD (zas l)=(l,0):=by
 have hu:=ziq [46] (by decide) l []
 rw[List.nil_append]at hu
 unfold labD errP
 rw[hu]
 simp[h]
theorem zfJ{l:Lab}(h:zas l=[]):l=[]:=by
 cases l with
 |nil=>rfl
 |cons c l=>
  have e:zas (c::l)=labB c++zas l:=by unfold zas;rw[List.flatMap_cons]
  rw[e]at h
  have h1:labB c=[]:=(List.append_eq_nil_iff.1 h).1
  unfold labB escB at h1
  split at h1
  ·cases h1
  ·split at h1<;>cases h1
theorem zfS:∀(n:Nm) (out:Nm) (f:Bool),(∀l∈n,errL l=0)→zbF f (n.map zas) out=(out++n,false,0)
 | [],out,f,_=>by simp[zbF]
 |l::n,out,f,h=>by
  have hl:=h l (List.mem_cons_self ..)
  rw[List.map_cons,zbF,if_neg,zhj hl]
  ·simp only[if_true]
   rw[zfS n _ _ (fun x hx=>h x (List.mem_cons_of_mem _ hx))]
   simp
  ·rintro⟨h1,_⟩
   rw[zfJ h1]at hl
   unfold errL at hl;simp at hl
theorem zeG:∀(n:Nm) (out:Nm) (f:Bool),(∀l∈n,errL l=0)→(n=[]→f=false)→zbF f (n.map zas++ [[]]) out=(out++n,true,0)
 | [],out,f,_,hf=>by
  rw[hf rfl]
  show zbF false [[]] out=_
  unfold zbF
  rw[if_pos ⟨rfl,rfl,rfl⟩]
  simp
 |l::n,out,f,h,_=>by
  have hl:=h l (List.mem_cons_self ..)
  rw[List.map_cons,List.cons_append,zbF,if_neg,zhj hl]
  ·simp only[if_true]
   rw[zeG n _ _ (fun x hx=>h x (List.mem_cons_of_mem _ hx)) (fun _=>rfl)]
   simp
  ·rintro⟨h1,_⟩
   rw[zfJ h1]at hl
   unfold errL at hl;simp at hl
theorem zeg{n:Nm}(h:zaX n=0):(∀l∈n,errL l=0)∧lenN n≤255:=by
 unfold zaX at h
 split at h
 ·rename_i l hl
  have:=List.find?_some hl
  simp at this
  exact absurd h this
 ·rename_i hl
  rw[List.find?_eq_none]at hl
  refine⟨fun l hm=>by have:=hl l hm;simpa using this,?_⟩
  split at h
  ·cases h
  ·omega
theorem zgj{n:Nm}(h1:∀l∈n,errL l=0)(h2:lenN n≤255):zaX n=0:=by
 unfold zaX
 have:n.find? (fun l=>decide (errL l≠0))=Option.none:=by
  rw[List.find?_eq_none]
  intro l hl
  simp[h1 l hl]
 rw[this]
 simp only
 rw[if_neg (by omega)]
theorem zje(c:UInt8):∃d r,labB c=d::r∧d≠46∧d≠64:=by
 unfold labB
 split
 ·exact⟨92,_,rfl,by decide,by decide⟩
 ·split
  ·exact⟨92,_,rfl,by decide,by decide⟩
  ·rename_i h
   exact⟨c,[],rfl,fun e=>h (by rw[e];decide),fun e=>h (by rw[e];decide)⟩
theorem zit{l:Lab}(h:l≠ [])(r:Lab):¬zas l++r=[64]∧¬zas l++r=[46]∧¬zas l++r=[]:=by
 cases l with
 |nil=>exact absurd rfl h
 |cons c l=>
  have e:zas (c::l)=labB c++zas l:=by unfold zas;rw[List.flatMap_cons]
  obtain⟨d,q,hq,h1,h2⟩:=zje c
  rw[e,hq]
  refine⟨fun e=>?_,fun e=>?_,fun e=>?_⟩
  ·simp only[List.cons_append,List.cons.injEq]at e;exact h2 e.1
  ·simp only[List.cons_append,List.cons.injEq]at e;exact h1 e.1
  ·cases e
theorem errL_ne{l:Lab}(h:errL l=0):l≠ []:=fun e=>by rw[e]at h;unfold errL at h;simp at h
theorem dig_stop{s:Lab}{n:Nat}(h:∀j (hj:j<s.length),j<n→digB s[j]=true)(hn:n≤s.length)(h3:n≤3)(he:n<3→∀hj:n<s.length,digB s[n]=false):digN s=n:=by
 have e:s.take 3=s.take n++(s.drop n).take (3 - n):=by
  rw[←List.take_add];congr 1;omega
 unfold digN
 rw[e,List.takeWhile_append_of_pos (fun c hc=>?_),List.length_append,List.length_take]
 ·have:((s.drop n).take (3 - n)).takeWhile digB=[]:=by
   by_cases h4:n<3
   ·by_cases h5:n<s.length
    ·rw[List.drop_eq_getElem_cons h5,show 3 - n=(3 - n - 1)+1 by omega,List.take_succ_cons,List.takeWhile_cons_of_neg (by rw[he h4 h5];decide)]
    ·rw[List.drop_of_length_le (by omega)];simp
   ·rw[show 3 - n=0 by omega];rfl
  rw[this];simp;omega
 ·obtain⟨j,hj,rfl⟩:=List.mem_iff_getElem.1 hc
  rw[List.length_take]at hj
  rw[List.getElem_take]
  exact h j (by omega) (by omega)
def zgi(s:Lab)(n:Nat):Bool:=match s[n]? with
 |some c=>decide (n<3) && digB c
 |Option.none=>false
theorem zjC(w:World)(s:Lab)(hl:s.length≤1000000000):Fn Tryz.prog 230 #[vs s] w (fun v w'=>v=vi (digN s)∧w=w'):=by
 refine enter Tryz.func230 Tryz.ntmps230 rfl rfl ?_
 refine go trivial ?_
 refine zbg (fun m σ ds v=>ds=[]∧∃n,n+m=3∧n≤s.length∧σ 0=vs s∧σ 3=vi n∧w=v∧∀j (hj:j<s.length),j<n→digB s[j]=true) 3 ?_ ?_
 ·exact⟨rfl,0,by omega,Nat.zero_le _,vr0,vr0,rfl,fun j _ h=>by omega⟩
 rintro m σ ds v ⟨rfl,n,hnm,hnl,s0,s3,rfl,hall⟩
 have hmin:min (s.length:Int) 3=((min s.length 3:Nat):Int):=by omega
 refine go (an2 s0 s3) ?_
 refine zav (Q:=fun e σ' ds' v'=>e= .normal∧ds'=[]∧w=v'∧σ' 0=vs s∧σ' 3=vi n∧σ' 20= .bool (zgi s n)) ?_ ?_
 ·by_cases c1:n<min s.length 3
  ·have hi:n<s.length:=by omega
   have d1:decide ((n:Int)<((min s.length 3:Nat):Int))=true:=decide_eq_true (by omega)
   have z0:(0:Int)≤(n:Int):=by omega
   have zi:((n:Int)).toNat<s.length:=by omega
   have hct:zgi s n=digB s[n]:=by unfold zgi;rw[List.getElem?_eq_getElem hi];simp only;rw[decide_eq_true (by omega),Bool.true_and]
   obtain⟨c,hc⟩:∃c,s[n]=c:=⟨_,rfl⟩
   have hcx:s[((n:Int)).toNat]'zi=c:=hc
   rw[hct,hc]
   unfold digB
   by_cases c2:48≤c.toNat
   ·have d2:decide ((48:Int)≤(c.toNat:Int))=true:=decide_eq_true (by omega)
    obtain⟨t,ht⟩:∃t,decide ((c.toNat:Int)≤57)=t:=⟨_,rfl⟩
    rw[show (decide (48≤c.toNat) && decide (c.toNat≤57))=t by rw[decide_eq_true c2,Bool.true_and,←ht];exact decide_eq_decide.2 (by omega)]
    refine rq ?_;intro gd K hgd hK
    have hg5:∀n σ b,zaJ gd n σ (some (5,b))=zat (ev n σ (.tmp 9)) b:=(fun n σ b=>by rw[zag,show gd 5=some 9 from(by rw[hgd];rfl)];rfl);have hg11:∀n σ b,zaJ gd n σ (some (11,b))=zat (ev n σ (.tmp 15)) b:=(fun n σ b=>by rw[zag,show gd 11=some 15 from(by rw[hgd];rfl)];rfl)
    try simp (disch:=first|omega|assumption|rfl) only[go_sem,s0,s3,↓hg5,↓hg11]
    refine zfU (vr0) (vr0) ?_
    rw[hmin]
    try simp (disch:=first|omega|assumption|rfl) only[go_sem,s0,s3,d1,z0,zi,hc,d2,ht,↓hg5,↓hg11]
    refine hK _ _ ?_;clear hK hgd;clear K;try clear gd
    exact⟨rfl,rfl,rfl,(vq1 s0),(vq1 s3),vr0⟩
   ·have d2:decide ((48:Int)≤(c.toNat:Int))=false:=decide_eq_false (by omega)
    rw[decide_eq_false c2,Bool.false_and]
    refine rq ?_;intro gd K hgd hK
    have hg5:∀n σ b,zaJ gd n σ (some (5,b))=zat (ev n σ (.tmp 9)) b:=(fun n σ b=>by rw[zag,show gd 5=some 9 from(by rw[hgd];rfl)];rfl);have hg11:∀n σ b,zaJ gd n σ (some (11,b))=zat (ev n σ (.tmp 15)) b:=(fun n σ b=>by rw[zag,show gd 11=some 15 from(by rw[hgd];rfl)];rfl)
    try simp (disch:=first|omega|assumption|rfl) only[go_sem,s0,s3,↓hg5,↓hg11]
    refine zfU (vr0) (vr0) ?_
    rw[hmin]
    try simp (disch:=first|omega|assumption|rfl) only[go_sem,s0,s3,d1,z0,zi,hc,d2,↓hg5,↓hg11]
    refine hK _ _ ?_;clear hK hgd;clear K;try clear gd
    exact⟨rfl,rfl,rfl,(vq1 s0),(vq1 s3),vr0⟩
  ·have d1:decide ((n:Int)<((min s.length 3:Nat):Int))=false:=decide_eq_false (by omega)
   have hct:zgi s n=false:=by
    unfold zgi
    split
    ·rename_i c hc
     have:=(List.getElem?_eq_some_iff.1 hc).1
     rw[decide_eq_false (by omega),Bool.false_and]
    ·rfl
   rw[hct]
   refine rq ?_;intro gd K hgd hK
   have hg5:∀n σ b,zaJ gd n σ (some (5,b))=zat (ev n σ (.tmp 9)) b:=(fun n σ b=>by rw[zag,show gd 5=some 9 from(by rw[hgd];rfl)];rfl);have hg11:∀n σ b,zaJ gd n σ (some (11,b))=zat (ev n σ (.tmp 15)) b:=(fun n σ b=>by rw[zag,show gd 11=some 15 from(by rw[hgd];rfl)];rfl)
   try simp (disch:=first|omega|assumption|rfl) only[go_sem,s0,s3,↓hg5,↓hg11]
   refine zfU (vr0) (vr0) ?_
   rw[hmin]
   try simp (disch:=first|omega|assumption|rfl) only[go_sem,s0,s3,d1,↓hg5,↓hg11]
   refine hK _ _ ?_;clear hK hgd;clear K;try clear gd
   exact⟨rfl,rfl,rfl,(vq1 s0),(vq1 s3),vr0⟩
 rintro _ σ1 _ v1 ⟨rfl,rfl,hv1,g0,g3,g20⟩
 subst hv1
 have hi2:(n:Int)+1=((n+1:Nat):Int):=by push_cast;rfl
 cases hc:zgi s n with
 |true=>
  rw[hc]at g20
  unfold zgi at hc
  split at hc
  ·rename_i c hcc
   simp only[Bool.and_eq_true,decide_eq_true_eq]at hc
   obtain⟨hi,hce⟩:=List.getElem?_eq_some_iff.1 hcc
   refine go (an4 g0 g3 g20 hi2) ?_
   refine⟨m - 1,by omega,rfl,n+1,by omega,by omega,(vq1 g0),(vq1 hi2),rfl,fun j hj hjn=>?_⟩
   by_cases e:j=n
   ·subst e;rw[hce];exact hc.2
   ·exact hall j hj (by omega)
  ·cases hc
 |false=>
  rw[hc]at g20
  refine go (an3 g0 g3 g20) ?_
  refine rt0 Tryz.ntmps230 ?_
  refine⟨?_,rfl⟩
  rw[dig_stop hall hnl (by omega) (fun h3 hj=>by
   unfold zgi at hc
   rw[List.getElem?_eq_getElem hj]at hc
   simp only at hc
   rwa [decide_eq_true h3,Bool.true_and]at hc)]
theorem i_str1(k:IntKind)(a c:UInt8)(r:Lab):ixSD (some .string) (vs (a::c::r)) (.int k 1)=some (.int .u8 c.toNat):=(zhU (by decide) (by simp)).trans rfl
theorem i_str2(k:IntKind)(a b c:UInt8)(r:Lab):ixSD (some .string) (vs (a::b::c::r)) (.int k 2)=some (.int .u8 c.toNat):=(zhU (by decide) (by simp)).trans rfl
attribute [go_sem] i_str1 i_str2
theorem zh1(w:World)(s:Lab)(hl:s.length≤1000000000):Fn Tryz.prog 215 #[vs s] w (fun v w'=>v= .tuple #[zao (escD s).1,vi (escD s).2.1,vi (escD s).2.2]∧Ext w w'):=by
 refine enter Tryz.func215 Tryz.ntmps215 rfl rfl ?_
 refine go trivial ?_
 refine rc trivial (zjC w s hl) ?_
 rintro _ w1 ⟨rfl,hw1⟩
 subst hw1
 unfold escD
 by_cases h0:digN s=0
 ·rw[if_pos h0]
  have d0:decide ((digN s:Int)=0)=true:=decide_eq_true (by omega)
  cases s with
  |nil=>
   refine rgo d0 ?_
   refine zaf (.inr rfl) Tryz.ntmps215 rfl (zac (vr0) (zac (vr0) (zac (vr0) zae))) ?_
   exact⟨rfl,Keep.refl _ _⟩
  |cons c r=>
   have d1:decide (c::r=[])=false:=rfl
   refine rgo (an2 d0 d1) ?_
   refine zaf (.inr rfl) Tryz.ntmps215 rfl (zac (vr0) (zac (vr0) (zac (vr0) zae))) ?_
   exact⟨rfl,Keep.refl _ _⟩
 rw[if_neg h0]
 have d0:decide ((digN s:Int)=0)=false:=decide_eq_false (by omega)
 by_cases h3:digN s=3
 ·rw[if_pos h3]
  have d3:decide ((digN s:Int)=3)=true:=decide_eq_true (by omega)
  have hlen:3≤s.length∧∀j (hj:j<s.length),j<3→digB s[j]=true:=by
   have h4:((s.take 3).takeWhile digB).length=3:=h3
   have h5:((s.take 3).takeWhile digB).length≤(s.take 3).length:=(List.takeWhile_sublist _).length_le
   rw[h4,List.length_take]at h5
   have h6:(s.take 3).takeWhile digB=s.take 3:=(List.takeWhile_prefix digB).eq_of_length (by rw[h4,List.length_take];omega)
   refine⟨by omega,fun j hj h=>?_⟩
   have h7:s[j]∈(s.take 3).takeWhile digB:=by
    rw[h6]
    exact List.mem_iff_getElem.2 ⟨j,by rw[List.length_take];omega,by rw[List.getElem_take]⟩
   exact List.all_eq_true.1 List.all_takeWhile _ h7
  obtain⟨hl3,hdg⟩:=hlen
  obtain⟨a,b,c,r,rfl⟩:∃a b c r,s=a::b::c::r:=by
   match s,hl3 with
   |a::b::c::r,_=>exact⟨a,b,c,r,rfl⟩
  have ka:=hdg 0 (by simp) (by omega)
  have kb:=hdg 1 (by simp) (by omega)
  have kc:=hdg 2 (by simp) (by omega)
  simp only[List.getElem_cons_zero,List.getElem_cons_succ]at ka kb kc
  unfold digB at ka kb kc
  simp only[Bool.and_eq_true,decide_eq_true_eq]at ka kb kc
  obtain⟨x,hx⟩:∃x,a.toNat=48+x:=⟨a.toNat - 48,by omega⟩
  obtain⟨y,hy⟩:∃y,b.toNat=48+y:=⟨b.toNat - 48,by omega⟩
  obtain⟨z,hz⟩:∃z,c.toNat=48+z:=⟨c.toNat - 48,by omega⟩
  have hv:escV (a::b::c::r)=100*x+10*y+z:=by unfold escV;simp only;omega
  obtain⟨V,hV⟩:∃V,100*x+10*y+z=V:=⟨_,rfl⟩
  have ea:(a.toNat:Int) - 48=(x:Int):=by omega
  have eb:(b.toNat:Int) - 48=(y:Int):=by omega
  have ec:(c.toNat:Int) - 48=(z:Int):=by omega
  have eV:100*(x:Int)+10*(y:Int)+(z:Int)=(V:Int):=by omega
  have e0:(a::b::c::r)[Int.toNat 0]'(by simp)=a:=rfl
  have e1:(a::b::c::r)[Int.toNat 1]'(by simp)=b:=rfl
  have e2:(a::b::c::r)[Int.toNat 2]'(by simp)=c:=rfl
  rw[hv,hV]
  refine rgo (an2 d0 d3) ?_
  refine zav (Q:=fun e σ' ds' v'=>e= .normal∧ds'=[]∧Ext w v'∧σ' 5=vi V) ?_ ?_
  ·refine zaS (fun _=>false) [(0,true),(1,true),(2,true),(3,true),(4,true),(5,true),(6,true),(7,true),(8,true),(9,true),(10,true),(11,true),(12,true),(13,true),(14,true),(15,true),(16,true)] NoS mixed (by kernel_rfl) ?_;intro gd K x hgd hx hxe hK;have hx0:=zaP hxe;clear hxe
   simp (disch:=first|omega|assumption|rfl) only[go_sem,e0,e1,e2,ea,eb,ec,eV]
   refine hK _ _ ?_;clear hK hgd;clear K;try clear gd
   exact⟨rfl,rfl,hx0,vr0⟩
  rintro _ σ1 _ v1 ⟨rfl,rfl,hE1,g5⟩
  by_cases hb:255<V
  ·have d5:decide ((255:Int)<(V:Int))=true:=decide_eq_true (by omega)
   rw[if_pos hb]
   refine go (an2 g5 d5) ?_
   refine zaf (.inr rfl) Tryz.ntmps215 rfl (zac (vr0) (zac (vr0) (zac (vr0) zae))) ?_
   exact⟨rfl,hE1⟩
  ·have d5:decide ((255:Int)<(V:Int))=false:=decide_eq_false (by omega)
   rw[if_neg hb]
   refine go (an2 g5 d5) ?_
   refine zaf (.inr rfl) Tryz.ntmps215 rfl (zac (vr0) (zac (vr0) (zac (vr0) zae))) ?_
   exact⟨by rw[zb9 (by omega)];rfl,hE1⟩
 rw[if_neg h3]
 have d3:decide ((digN s:Int)=3)=false:=decide_eq_false (by omega)
 refine rgo (an2 d0 d3) ?_
 refine zaf (.inr rfl) Tryz.ntmps215 rfl (zac (vr0) (zac (vr0) (zac (vr0) zae))) ?_
 exact⟨rfl,Keep.refl _ _⟩
theorem zbQ(w:World)(l:Lab)(c:UInt8):Fn Tryz.prog 67 #[vs l,zao c] w (fun v w'=>v=vi (Lib.indexByte l c)∧w'=w):=
 Fn.of_calls (Calls.mono (Any.strings_IndexByte Tryz.lays137 ⟨l.toArray⟩ (c.toNat:Int) w) fun _ _ ⟨he,hw⟩=>⟨_,he,by simp,hw⟩)
theorem escD_le(s:Lab):(escD s).2.1≤3∧0≤(escD s).2.2∧(escD s).2.2≤7:=by
 unfold escD
 split
 ·cases s<;>simp
 ·split
  ·split<;>simp
  ·simp
theorem unD_skip(bare:Lab)(k:Nat)(c:UInt8)(s acc:Lab):unD bare (k+1) (c::s) acc=unD bare k s acc:=by rw[unD]
structure UnI(w:World)(s bare:Lab)(B:Nat)(A:World)(bh:Nat)(acc:Lab):Prop where
 e:Ext w A
 hB:w.heap.size+6≤B
 c0:A.heap[w.heap.size]? =some (.cells #[vs s] 9 (0,0))
 c1:A.heap[w.heap.size+1]? =some (.cells #[vs bare] 9 (0,0))
 c2:A.heap[w.heap.size+2]? =some (.cells #[vs []] 9 (0,0))
 c3:A.heap[w.heap.size+3]? =some (.cells #[vi 0] 57 (0,0))
 c5:A.heap[w.heap.size+5]? =some (.cells #[vi bh] 3 (0,0))
 b:Bld B A (w.heap.size+4) acc
theorem UnI.lt{w:World}{s bare:Lab}{B:Nat}{A:World}{bh:Nat}{acc:Lab}(h:UnI w s bare B A bh acc):w.heap.size+5<A.heap.size:=(Array.getElem?_eq_some_iff.1 h.c5).1
theorem UnI.keep{w:World}{s bare:Lab}{B:Nat}{A X:World}{bh:Nat}{acc:Lab}{S:Nat→Prop}(h:UnI w s bare B A bh acc)(hk:Keep S A X)(hS:∀i,S i→w.heap.size+6≤i∧i<B):UnI w s bare B X bh acc:=by
 have hlt:=h.lt
 have hb:∀j,j<w.heap.size+6→X.heap[j]? =A.heap[j]?:=fun j hj=>hk.block _ (by omega) fun hs=>by have:=(hS _ hs).1;omega
 obtain⟨p,v,h1,h2,h3⟩:=h.b.ex
 exact⟨Keep.to_ext h.e rfl (fun i hi=>by have:=(hS i hi).1;omega) hk,h.hB,(hb _ (by omega)).trans h.c0,(hb _ (by omega)).trans h.c1,(hb _ (by omega)).trans h.c2,(hb _ (by omega)).trans h.c3,(hb _ (by omega)).trans h.c5,
  ⟨⟨p,v,h1,(hb _ (by omega)).trans h2,h3.keep hk fun i hi hs=>by have:=(hS i hs).2;have:=(h3.ge hi).1;omega⟩⟩⟩
theorem UnI.ext{w:World}{s bare:Lab}{B:Nat}{A X:World}{bh:Nat}{acc:Lab}(h:UnI w s bare B A bh acc)(hk:Ext A X):UnI w s bare B X bh acc:=h.keep hk fun _ h=>h.elim
theorem UnI.turn{w:World}{s bare:Lab}{B:Nat}{A X:World}{bh bh':Nat}{acc:Lab}(h:UnI w s bare B A bh acc)(hk:Keep (fun i=>i=w.heap.size+5) A X)(h5:X.heap[w.heap.size+5]? =some (.cells #[vi bh'] 3 (0,0))):UnI w s bare B X bh' acc:=by
 have hlt:=h.lt
 have hb:∀j,j<w.heap.size+5→X.heap[j]? =A.heap[j]?:=fun j hj=>hk.block _ (by omega) (by omega)
 obtain⟨p,v,h1,h2,h3⟩:=h.b.ex
 have hB:=h.hB
 exact⟨Keep.to_ext h.e rfl (fun i hi=>by omega) hk,h.hB,(hb _ (by omega)).trans h.c0,(hb _ (by omega)).trans h.c1,(hb _ (by omega)).trans h.c2,(hb _ (by omega)).trans h.c3,h5,
  ⟨⟨p,v,h1,(hb _ (by omega)).trans h2,h3.keep hk fun i hi hs=>by have:=(h3.ge hi).1;omega⟩⟩⟩
theorem UnI.wrote{w:World}{s bare:Lab}{B:Nat}{A X:World}{bh:Nat}{acc acc':Lab}(h:UnI w s bare B A bh acc)(hk:Keep (fun i=>i=w.heap.size+4∨B≤i) A X)(hb:Bld B X (w.heap.size+4) acc'):UnI w s bare B X bh acc':=by
 have hlt:=h.lt
 have hB:=h.hB
 have hb':∀j,j<w.heap.size+6→¬j=w.heap.size+4→X.heap[j]? =A.heap[j]?:=fun j hj hn=>hk.block _ (by omega) (by omega)
 exact⟨Keep.to_ext h.e rfl (fun i hi=>by omega) hk,h.hB,(hb' _ (by omega) (by omega)).trans h.c0,(hb' _ (by omega) (by omega)).trans h.c1,(hb' _ (by omega) (by omega)).trans h.c2,(hb' _ (by omega) (by omega)).trans h.c3,(hb' _ (by omega) (by omega)).trans h.c5,hb⟩
def UnE(w A:World)(e:Int):Prop:=Ext w A∧A.heap[w.heap.size+2]? =some (.cells #[vs []] 9 (0,0))∧A.heap[w.heap.size+3]? =some (.cells #[vi e] 57 (0,0))
theorem UnE.keep{w A X:World}{e:Int}{S:Nat→Prop}(h:UnE w A e)(hk:Keep S A X)(hS:∀i,S i→w.heap.size+4≤i):UnE w X e:=by
 obtain⟨h1,h2,h3⟩:=h
 have l1:=(Array.getElem?_eq_some_iff.1 h3).1
 exact⟨Keep.to_ext h1 rfl (fun i hi=>by have:=hS i hi;omega) hk,(hk.block _ (by omega) fun hs=>by have:=hS _ hs;omega).trans h2,(hk.block _ (by omega) fun hs=>by have:=hS _ hs;omega).trans h3⟩
theorem zet(w:World)(s bare:Lab)(hl:s.length≤1000000000):Fn Tryz.prog 194 #[vs s,vs bare] w (fun v w'=>v= .tuple #[vs (unD bare 0 s []).1,vi (unD bare 0 s []).2]∧Ext w w'):=by
 refine enter Tryz.func194 Tryz.ntmps194 rfl rfl ?_
 refine go trivial ?_
 simp only[zaB]
 refine zfx ?_
 intro w0 hE0 hs0 hA2 hA3 hA4
 obtain⟨hEX,hsX,hA0,hA1⟩:=zcr w (.cells #[vs s] 9 (0,0)) (.cells #[vs bare] 9 (0,0))
 rw[hsX]at hs0 hA2 hA3 hA4
 refine rq ?_;intro gd K hgd hK
 try simp only[go_sem]
 refine zan (P:=Tryz.prog) rfl rfl rfl (zax w0 _) (by simp) (by simp) ?_
 intro w1 hs1 hA5 hk1
 rw[zaB]at hs1
 try simp only[go_sem]
 refine hK _ _ ?_;clear hK hgd;clear K;try clear gd
 rw[hs0]at hA5 ⊢
 have hE1:Ext w0 w1:=Keep.to_ext (Ext.alloc w0 _) rfl (fun b hb=>by omega) hk1
 have b0:=Ext.at (hE0.trans hE1) hA0
 have b1:=Ext.at (hE0.trans hE1) hA1
 have b2:=Ext.at hE1 hA2
 have b3:=Ext.at hE1 hA3
 have b4:=Ext.at hE1 hA4
 have hEw1:=(hEX.trans hE0).trans hE1
 refine go trivial ?_
 have c0:zad w1 (some ⟨w.heap.size,0,Option.none⟩)=some (vs s):=zaa b0 rfl
 refine rc c0 (zc5 w1 s (by omega)) ?_
 rintro _ w3 ⟨hE3,cap,rfl,hit⟩
 refine rgo trivial ?_
 have hs3:=hE3.size
 have hI3:UnI w s bare (w3.heap.size+2) w3 0 []:=⟨hEw1.trans hE3,by omega,hE3.at b0,hE3.at b1,hE3.at b2,hE3.at b3,hE3.at (by simpa using hA5),⟨⟨_,_,.inl rfl,hE3.at b4,Own.nil _ _ _⟩⟩⟩
 obtain⟨D,hD⟩:∃D,w3.heap.size=D:=⟨_,rfl⟩
 rw[hD]at hI3
 have hDw:w.heap.size+6≤D:=by omega
 refine zav (Q:=fun e σ' ds' v'=>(e= .normal∨e= .ret)∧ds'=[{target:= .collected D,args:=#[]}]∧v'.heap[D]? =some (.deferred (some []))∧(σ' 4= .pointer (some ⟨w.heap.size+2,0,Option.none⟩)∧σ' 5= .pointer (some ⟨w.heap.size+3,0,Option.none⟩)∧σ' 6= .pointer (some ⟨w.heap.size+4,0,Option.none⟩))∧
  ((e= .normal∧∃bh acc,UnI w s bare (D+2) v' bh acc∧acc.length≤s.length∧unD bare 0 s []=(acc,0))∨(e= .ret∧∃er,UnE w v' er∧unD bare 0 s []=([],er)))) ?_ ?_
 ·refine zcs (g:=91) (cap:=cap) (vq0) rfl (hit (fun b=>w.heap.size+2≤b∧b≤w.heap.size+5) (fun b hb=>by omega)) (Keep.refl _ _) (Nat.le_refl _) (fun b hb=>by omega)
   (fun x A args h=>by rw[h];rfl)
   (fun pre A=>∃bh acc,UnI w s bare (D+2) A bh acc∧acc.length≤pre.length∧bh≤pre.length+4∧unD bare (bh - pre.length) (s.drop pre.length) acc=unD bare 0 s [])
   (fun c pre A=>c= .ret∧∃er,UnE w A er∧unD bare 0 s []=([],er)) ?_ ?_ ?_ ?_ ?_ ?_
  ·rintro pre A X ⟨bh,acc,h1,h2⟩ hk
   exact⟨bh,acc,h1.keep hk (fun i hi=>by unfold two at hi;omega),h2⟩
  ·rintro c pre A X ⟨rfl,er,h1,h2⟩ hk
   exact⟨rfl,er,h1.keep hk (fun i hi=>by unfold two at hi;omega),h2⟩
  ·exact⟨0,[],hI3,by simp,by simp,by simp⟩
  ·rintro lp pre x suf A args hxs hszA ⟨bh,acc,hI,hal,hbl,hun⟩ rfl
   obtain⟨hk,rfl⟩:=zbL hxs
   dsimp only
   refine go trivial ?_
   refine⟨rfl,KeepB.refl _ _ _,fun A2 hA2=>?_⟩
   rw[hD]at hszA hA2 ⊢
   have hI2:=hI.keep hA2 (fun i hi=>by unfold two at hi;omega)
   have hs2:=hA2.size
   clear hI
   obtain⟨c,hc⟩:∃c,s[pre.length]=c:=⟨_,rfl⟩
   rw[hc]
   rw[List.drop_eq_getElem_cons hk,hc]at hun
   obtain⟨i,hi⟩:∃i,pre.length=i:=⟨_,rfl⟩
   rw[hi]at hk hun hal hbl ⊢
   have hpl:∀y:UInt8×Nat,(pre++ [y]).length=i+1:=fun y=>by simp[hi]
   have c5:zad A2 (some ⟨w.heap.size+5,0,Option.none⟩)=some (vi bh):=zaa hI2.c5 rfl
   have hi2:(i:Int)+1=((i+1:Nat):Int):=by push_cast;rfl
   by_cases hb:i<bh
   ·have d1:decide ((i:Int)<(bh:Int))=true:=decide_eq_true (by omega)
    refine go (an2 c5 d1) ?_
    refine⟨⟨bh,acc,hI2,by rw[hpl];omega,by rw[hpl];omega,?_⟩,KeepB.refl _ _ _⟩
    rw[hpl,←hun,show bh - i=(bh - (i+1))+1 by omega,unD_skip]
   have d1:decide ((i:Int)<(bh:Int))=false:=decide_eq_false (by omega)
   rw[show bh - i=0 by omega,unD]at hun
   refine go (an2 c5 d1) ?_
   refine rq ?_;intro gd K hgd hK
   try simp (disch:=first|omega|assumption|rfl) only[go_sem,hi2]
   refine zan rfl rfl rfl hI2.c5 (by simp) (by simp) ?_
   intro z1 hzs1 hzb1 hzk1
   try simp only[go_sem]
   refine hK _ _ ?_;clear hK hgd;clear K;try clear gd
   have hJ1:=hI2.turn hzk1 hzb1
   have hKz1:KeepB (D+2) (fun b=>w.heap.size+2≤b∧b≤w.heap.size+5) A2 z1:=hzk1.toB (by omega) (fun j hj h=>by omega)
   have k0:zad z1 (some ⟨w.heap.size,0,Option.none⟩)=some (vs s):=zaa hJ1.c0 rfl
   have k1:zad z1 (some ⟨w.heap.size+1,0,Option.none⟩)=some (vs bare):=zaa hJ1.c1 rfl
   clear c5 hI2
   have hbv:zao c= .int .u8 (c.toNat:Int):=rfl
   by_cases h92:c=92
   ·have d2:decide ((c.toNat:Int)=92)=true:=by subst h92;rfl
    rw[if_pos h92]at hun
    have z0:(0:Int)≤((i+1:Nat):Int):=by omega
    have z2:((i+1:Nat):Int)≤(s.length:Int):=by omega
    obtain⟨q,hq⟩:∃q,escD (s.drop (i+1))=q:=⟨_,rfl⟩
    have hle:=escD_le (s.drop (i+1))
    obtain⟨x,n,er⟩:=q
    rw[hq]at hun hle
    simp only at hun hle
    refine go (an2 hbv d2) ?_
    refine rc (an4 k0 hi2 z0 z2) (zh1 z1 (s.drop (i+1)) (by rw[List.length_drop];omega)) ?_
    rintro _ y1 ⟨rfl,hE2⟩
    rw[hq]
    simp only
    have hJ2:=hJ1.ext hE2
    have hsy1:=hE2.size
    have hKy1:=hKz1.trans (hE2.toB (by omega) (fun _ _ h=>h.elim))
    by_cases he:er=0
    ·have d3:decide (er=0)=true:=decide_eq_true he
     rw[if_pos he]at hun
     refine rgo d3 ?_
     refine rc trivial (zaH (c:=x) hJ2.b (by have:=hJ2.lt;omega) (by omega)) ?_
     rintro _ y2 ⟨hB2,hk2⟩
     have hJ3:=hJ2.wrote hk2 hB2
     have hsy2:=hk2.size
     have hKy2:=hKy1.trans (hk2.toB (by omega) (fun j hj h=>by omega))
     have c5:zad y2 (some ⟨w.heap.size+5,0,Option.none⟩)=some (vi ((i+1:Nat):Int)):=zaa hJ3.c5 rfl
     have hin:((i+1:Nat):Int)+(n:Int)=((i+1+n:Nat):Int):=by push_cast;rfl
     refine rgo trivial ?_
     refine rq ?_;intro gd K hgd hK
     try simp (disch:=first|omega|assumption|rfl) only[go_sem,c5,hin]
     refine zan rfl rfl rfl hJ3.c5 (by simp) (by simp) ?_
     intro y3 hys3 hyb3 hyk3
     try simp only[go_sem]
     refine hK _ _ ?_;clear hK hgd;clear K;try clear gd
     refine go trivial ?_
     refine⟨⟨i+1+n,acc++ [x],hJ3.turn hyk3 hyb3,by rw[hpl];simp;omega,by rw[hpl];omega,?_⟩,hKy2.trans (hyk3.toB (by omega) (fun j hj h=>by omega))⟩
     rw[hpl,←hun,show i+1+n - (i+1)=n by omega]
    ·have d3:decide (er=0)=false:=decide_eq_false he
     rw[if_neg he]at hun
     refine rgo d3 ?_
     refine rq ?_;intro gd K hgd hK
     try simp only[go_sem]
     refine zan rfl rfl rfl hJ2.c2 (by simp) (by simp) ?_
     intro y2 hys2 hyb2 hyk2
     try simp only[go_sem]
     refine zan rfl rfl rfl ((hyk2.block _ (by have:=hJ2.lt;omega) (by omega)).trans hJ2.c3) (by simp) (by simp) ?_
     intro y3 hys3 hyb3 hyk3
     try simp only[go_sem]
     refine hK _ _ ?_;clear hK hgd;clear K;try clear gd
     refine go trivial ?_
     refine⟨⟨rfl,er,⟨Keep.to_ext (Keep.to_ext hJ2.e rfl (fun i hi=>by omega) hyk2) rfl (fun i hi=>by omega) hyk3,(hyk3.block _ (by have:=hJ2.lt;omega) (by omega)).trans hyb2,hyb3⟩,hun.symm⟩,(hKy1.trans (hyk2.toB (by omega) (fun j hj h=>by omega))).trans (hyk3.toB (by omega) (fun j hj h=>by omega))⟩
   ·have d2:decide ((c.toNat:Int)=92)=false:=decide_eq_false fun h=>h92 (UInt8.toNat_inj.1 (by have:(92:UInt8).toNat=92:=rfl;omega))
    rw[if_neg h92]at hun
    have hhas:=zdb bare c
    refine go (an2 hbv d2) ?_
    refine rc k1 (zbQ z1 bare c) ?_
    rintro _ y0 ⟨rfl,hy0⟩
    subst hy0
    cases ht:bare.contains c with
    |true=>
     rw[ht]at hhas hun
     rw[if_pos rfl]at hun
     refine rgo hhas ?_
     refine rq ?_;intro gd K hgd hK
     try simp only[go_sem]
     refine zan rfl rfl rfl hJ1.c2 (by simp) (by simp) ?_
     intro y2 hys2 hyb2 hyk2
     try simp only[go_sem]
     refine zan rfl rfl rfl ((hyk2.block _ (by have:=hJ1.lt;omega) (by omega)).trans hJ1.c3) (by simp) (by simp) ?_
     intro y3 hys3 hyb3 hyk3
     try simp only[go_sem]
     refine hK _ _ ?_;clear hK hgd;clear K;try clear gd
     refine go trivial ?_
     refine⟨⟨rfl,2,⟨Keep.to_ext (Keep.to_ext hJ1.e rfl (fun i hi=>by omega) hyk2) rfl (fun i hi=>by omega) hyk3,(hyk3.block _ (by have:=hJ1.lt;omega) (by omega)).trans hyb2,hyb3⟩,hun.symm⟩,(hKz1.trans (hyk2.toB (by omega) (fun j hj h=>by omega))).trans (hyk3.toB (by omega) (fun j hj h=>by omega))⟩
    |false=>
     rw[ht]at hhas hun
     rw[if_neg (by decide)]at hun
     refine rgo hhas ?_
     refine rc trivial (zaH (c:=c) hJ1.b (by have:=hJ1.lt;omega) (by omega)) ?_
     rintro _ y2 ⟨hB2,hk2⟩
     refine rgo trivial ?_
     refine⟨⟨i+1,acc++ [c],hJ1.wrote hk2 hB2,by rw[hpl];simp;omega,by rw[hpl];omega,?_⟩,hKz1.trans (hk2.toB (by omega) (fun j hj h=>by omega))⟩
     rw[hpl,←hun,Nat.sub_self]
  ·rintro v hsz ⟨bh,acc,h1,h2,_,h3⟩ hDv
   rw[hD]at hDv
   rw[List.drop_of_length_le (by simp),unD]at h3
   have hz:s.zipIdx.length=s.length:=by simp
   exact⟨.inl rfl,by rw[hD],hDv,⟨vr0,vr0,vr0⟩,.inl ⟨rfl,bh,acc,h1,by omega,h3.symm⟩⟩
  ·rintro c pre x suf v hsz hxs ⟨rfl,er,h1,h2⟩ hDv
   rw[hD]at hDv
   refine go trivial ?_
   exact⟨.inr rfl,by rw[hD],hDv,⟨vr0,vr0,vr0⟩,.inr ⟨rfl,er,h1,h2⟩⟩
 rintro e σ2 ds v ⟨_,rfl,hDv,⟨t4,t5,t6⟩,(⟨rfl,bh,acc,h1,h2,h3⟩| ⟨rfl,er,h1,h3⟩)⟩
 ·have hlv:=h1.lt
  refine go trivial ?_
  refine rq ?_;intro gd K hgd hK
  try simp (disch:=first|omega|assumption|rfl) only[go_sem,t6]
  refine Fn.mono (zb3 h1.b (by omega)) ?_
  rintro _ y1 ⟨rfl,hy1⟩
  try simp (disch:=first|omega|assumption|rfl) only[go_sem,t4]
  refine zan rfl rfl rfl ((hy1.block _ (by omega) (by omega)).trans h1.c2) (by simp) (by simp) ?_
  intro y2 hys2 hyb2 hyk2
  try simp (disch:=first|omega|assumption|rfl) only[go_sem,t5]
  refine zan rfl rfl rfl ((hyk2.block _ (by have:=hy1.size;omega) (by omega)).trans ((hy1.block _ (by omega) (by omega)).trans h1.c3)) (by simp) (by simp) ?_
  intro y3 hys3 hyb3 hyk3
  try simp only[go_sem]
  refine hK _ _ ?_;clear hK hgd;clear K;try clear gd
  refine go trivial ?_
  have hsy:=hy1.size
  have e2:=(hyk3.block _ (by omega) (by omega)).trans (show y2.heap[w.heap.size+2]? =some (.cells #[vs acc] 9 (0,0)) by simpa using hyb2)
  have e3:y3.heap[w.heap.size+3]? =some (.cells #[vi 0] 57 (0,0)):=by simpa using hyb3
  have hlD:=(Array.getElem?_eq_some_iff.1 hDv).1
  have hBD:=h1.hB
  refine zcw (.inr rfl) Tryz.ntmps194 rfl ((hyk3.block _ (by omega) (by omega)).trans ((hyk2.block _ (by omega) (by omega)).trans ((hy1.block _ (by omega) (by omega)).trans hDv))) fun y hy hys=>⟨_,zb4 (v:=vs acc) ((vq1 t4)) rfl rfl (zaa (i:=0) ((hy.block _ (by omega) (by omega)).trans e2) rfl) (zb4 (v:=vi 0) ((vq1 t5)) rfl rfl (zaa (i:=0) ((hy.block _ (by omega) (by omega)).trans e3) rfl) zae),?_⟩
  rw[h3]
  exact⟨rfl,Keep.to_ext (Keep.to_ext (Keep.to_ext (Keep.to_ext h1.e rfl (fun i hi=>by omega) hy1) rfl (fun i hi=>by omega) hyk2) rfl (fun i hi=>by omega) hyk3) rfl (fun i hi=>by omega) hy⟩
 ·have hlv:=(Array.getElem?_eq_some_iff.1 h1.2.2).1
  refine go trivial ?_
  refine zcw (.inr rfl) Tryz.ntmps194 rfl hDv fun y hy hys=>⟨_,zb4 (v:=vs []) ((vq1 t4)) rfl rfl (zaa (i:=0) ((hy.block _ (by omega) (by omega)).trans h1.2.1) rfl) (zb4 (v:=vi er) ((vq1 t5)) rfl rfl (zaa (i:=0) ((hy.block _ (by omega) (by omega)).trans h1.2.2) rfl) zae),?_⟩
  rw[h3]
  exact⟨rfl,Keep.to_ext h1.1 rfl (fun i hi=>by omega) hy⟩
theorem zeC(bare:Lab):∀(k:Nat) (s acc:Lab),(unD bare k s acc).1.length≤acc.length+s.length
 |k,[],acc=>by cases k<;>simp[unD]
 |k+1,c::s,acc=>by
  rw[unD]
  have:=zeC bare k s acc
  rw[List.length_cons];omega
 |0,c::s,acc=>by
  rw[unD,List.length_cons]
  split
  ·split
   ·have:=zeC bare (escD s).2.1 s (acc++ [(escD s).1])
    rw[List.length_append,List.length_singleton]at this;omega
   ·simp
  ·split
   ·simp
   ·have:=zeC bare 0 s (acc++ [c])
    rw[List.length_append,List.length_singleton]at this;omega
theorem zj2(w:World)(p:Lab)(hl:p.length≤1000000000):Fn Tryz.prog 166 #[vs p] w (fun v w'=>v= .tuple #[vs (labD p).1,vi (labD p).2]∧Ext w w'):=by
 refine enter Tryz.func166 Tryz.ntmps166 rfl rfl ?_
 refine go trivial ?_
 refine rc trivial (zet w p [46] hl) ?_
 rintro _ w1 ⟨rfl,hE1⟩
 have hul:=zeC [46] 0 p []
 rw[List.length_nil]at hul
 unfold labD errP
 obtain⟨⟨l,e⟩,hq⟩:∃q,unD [46] 0 p []=q:=⟨_,rfl⟩
 rw[hq]at hul ⊢
 simp only at hul ⊢
 by_cases he:e=0
 ·have d1:decide (e=0)=true:=decide_eq_true he
  simp only[if_pos he]
  refine rgo d1 ?_
  refine rc trivial (zgt w1 l (by omega)) ?_
  rintro _ w2 ⟨rfl,hE2⟩
  by_cases hc:errL l=0
  ·have d2:decide (errL l=0)=true:=decide_eq_true hc
   rw[if_pos hc]
   refine rgo d2 ?_
   refine zaf (.inr rfl) Tryz.ntmps166 rfl (zac (vr0) (zac (vr0) zae)) ?_
   exact⟨rfl,hE1.trans hE2⟩
  ·have d2:decide (errL l=0)=false:=decide_eq_false hc
   rw[if_neg hc]
   refine rgo d2 ?_
   refine zaf (.inr rfl) Tryz.ntmps166 rfl (zac (vr0) (zac (vr0) zae)) ?_
   exact⟨rfl,hE1.trans hE2⟩
 ·have d1:decide (e=0)=false:=decide_eq_false he
  simp only[if_neg he]
  refine rgo d1 ?_
  refine zaf (.inr rfl) Tryz.ntmps166 rfl (zac (vr0) (zac (vr0) zae)) ?_
  exact⟨rfl,hE1⟩
theorem cut_more{s:Lab}{f i:Nat}(hf:f≤i)(hi:i<s.length):(s.drop f).take (i+1 - f)=(s.drop f).take (i - f)++ [s[i]]:=by
 rw[show i+1 - f=(i - f)+1 by omega,List.take_add_one,List.getElem?_drop,show f+(i - f)=i by omega,List.getElem?_eq_getElem hi]
 rfl
theorem zd1:∀(s:Lab) (t:Bool) (cur:Lab),(splD t cur s).1.length≤s.length+1∧∀p∈(splD t cur s).1,p.length≤cur.length+s.length
 | [],t,cur=>by cases t<;>simp[splD]
 |c::s,true,cur=>by
  obtain⟨h1,h2⟩:=zd1 s false (cur++ [c])
  rw[splD]
  refine⟨by rw[List.length_cons];omega,fun p hp=>?_⟩
  have:=h2 p hp
  rw[List.length_append,List.length_singleton]at this
  rw[List.length_cons];omega
 |c::s,false,cur=>by
  rw[splD]
  split
  ·obtain⟨h1,h2⟩:=zd1 s true (cur++ [c])
   refine⟨by rw[List.length_cons];omega,fun p hp=>?_⟩
   have:=h2 p hp
   rw[List.length_append,List.length_singleton]at this
   rw[List.length_cons];omega
  ·split
   ·obtain⟨h1,h2⟩:=zd1 s false []
    refine⟨by simp only[List.length_cons];omega,fun p hp=>?_⟩
    rcases List.mem_cons.1 hp with rfl|hp
    ·rw[List.length_cons];omega
    ·have:=h2 p hp
     rw[List.length_nil]at this
     rw[List.length_cons];omega
   ·obtain⟨h1,h2⟩:=zd1 s false (cur++ [c])
    refine⟨by rw[List.length_cons];omega,fun p hp=>?_⟩
    have:=h2 p hp
    rw[List.length_append,List.length_singleton]at this
    rw[List.length_cons];omega
structure SpI(w:World)(s:Lab)(B:Nat)(A:World)(f:Nat)(t:Bool)(out:List Lab):Prop where
 e:Ext w A
 hB:w.heap.size+5≤B
 c0:A.heap[w.heap.size]? =some (.cells #[vs s] 9 (0,0))
 c2:∃sv,A.heap[w.heap.size+2]? =some (.cells #[sv] 23 (0,0))∧Own (w.heap.size+1) A 9 sv (out.map vs)∧∀i,some i=sv.ownBlock→i=w.heap.size+1∨B≤i
 c3:A.heap[w.heap.size+3]? =some (.cells #[vi f] 3 (0,0))
 c4:A.heap[w.heap.size+4]? =some (.cells #[.bool t] 4 (0,0))
theorem SpI.lt{w:World}{s:Lab}{B:Nat}{A:World}{f:Nat}{t:Bool}{out:List Lab}(h:SpI w s B A f t out):w.heap.size+4<A.heap.size:=(Array.getElem?_eq_some_iff.1 h.c4).1
theorem SpI.keep{w:World}{s:Lab}{B:Nat}{A X:World}{f:Nat}{t:Bool}{out:List Lab}{S:Nat→Prop}(h:SpI w s B A f t out)(hk:Keep S A X)(hS:∀i,S i→w.heap.size+5≤i∧i<B):SpI w s B X f t out:=by
 have hlt:=h.lt
 have hb:∀j,j<w.heap.size+5→X.heap[j]? =A.heap[j]?:=fun j hj=>hk.block _ (by omega) fun hs=>by have:=(hS _ hs).1;omega
 obtain⟨sv,h1,h2,h3⟩:=h.c2
 exact⟨Keep.to_ext h.e rfl (fun i hi=>by have:=(hS i hi).1;omega) hk,h.hB,(hb _ (by omega)).trans h.c0,⟨sv,(hb _ (by omega)).trans h1,h2.keep hk fun i hi hs=>by have:=hS i hs;have:=h3 i hi;omega,h3⟩,(hb _ (by omega)).trans h.c3,(hb _ (by omega)).trans h.c4⟩
theorem SpI.ext{w:World}{s:Lab}{B:Nat}{A X:World}{f:Nat}{t:Bool}{out:List Lab}(h:SpI w s B A f t out)(hk:Ext A X):SpI w s B X f t out:=h.keep hk fun _ h=>h.elim
theorem SpI.turn{w:World}{s:Lab}{B:Nat}{A X:World}{f:Nat}{t t':Bool}{out:List Lab}(h:SpI w s B A f t out)(hk:Keep (fun i=>i=w.heap.size+4) A X)(h4:X.heap[w.heap.size+4]? =some (.cells #[.bool t'] 4 (0,0))):SpI w s B X f t' out:=by
 have hlt:=h.lt
 have hB:=h.hB
 have hb:∀j,j<w.heap.size+4→X.heap[j]? =A.heap[j]?:=fun j hj=>hk.block _ (by omega) (by omega)
 obtain⟨sv,h1,h2,h3⟩:=h.c2
 exact⟨Keep.to_ext h.e rfl (fun i hi=>by omega) hk,h.hB,(hb _ (by omega)).trans h.c0,⟨sv,(hb _ (by omega)).trans h1,h2.keep hk fun i hi hs=>by have:=h3 i hi;omega,h3⟩,(hb _ (by omega)).trans h.c3,h4⟩
theorem zj1(w:World)(s:Lab)(hl:s.length≤1000000000):Fn Tryz.prog 165 #[vs s] w (fun v w'=>Ext w w'∧(((splD false [] s).2=true∧v= .tuple #[.slice Option.none 0 0,vi 2])∨((splD false [] s).2=false∧∃sv,v= .tuple #[sv,vi 0]∧Row w' sv ((splD false [] s).1.map vs)))):=by
 refine enter Tryz.func165 Tryz.ntmps165 rfl rfl ?_
 refine go trivial ?_
 refine zam ?_
 intro w1 hE1 hs1 hA0
 refine rq ?_;intro gd K hgd hK
 try simp only[go_sem]
 refine zhA (z:=vs []) rfl rfl rfl rfl ?_
 intro w2 hE2 hs2 hown2
 try simp only[go_sem]
 refine zan (P:=Tryz.prog) rfl rfl rfl (zax w2 _) (by simp) (by simp) ?_
 intro x1 hx1 hbx hkx
 rw[zaB]at hx1
 have hEx:Ext w2 x1:=Keep.to_ext (Ext.alloc w2 _) rfl (fun b hb=>by omega) hkx
 try simp only[go_sem]
 refine hK _ _ ?_;clear hK hgd;clear K;try clear gd
 refine go trivial ?_
 obtain⟨hEY,hsY,hY0,hY1⟩:=zcr x1 (.cells #[vi 0] 3 (0,0)) (.cells #[.bool false] 4 (0,0))
 refine rq ?_;intro gd K hgd hK
 try simp only[go_sem]
 refine zan (P:=Tryz.prog) rfl rfl rfl hY0 (by simp) (by simp) ?_
 intro x2 hx2 hbx2 hkx2
 rw[hsY]at hx2
 try simp only[go_sem]
 simp only[zaB]
 refine zan (P:=Tryz.prog) rfl rfl rfl ((hkx2.block _ (by rw[hsY];omega) (by omega)).trans hY1) (by simp) (by simp) ?_
 intro w3 hs3 hbx3 hkx3
 try simp only[go_sem]
 refine hK _ _ ?_;clear hK hgd;clear K;try clear gd
 have hE3:Ext x1 w3:=Keep.to_ext (Keep.to_ext hEY rfl (fun b hb=>by omega) hkx2) rfl (fun b hb=>by omega) hkx3
 have hB3:=(hkx3.block x1.heap.size (by omega) (by omega)).trans hbx2
 have hsx:x1.heap.size=w.heap.size+3:=by omega
 have hsx':x1.heap.size+1=w.heap.size+4:=by omega
 have hsw:w2.heap.size=w.heap.size+2:=by omega
 simp only[zaB]
 rw[hsx']at hbx3 ⊢
 rw[hsx]at hB3 ⊢
 rw[hsw,hs1]at hbx ⊢
 rw[hs1]at hown2
 have hB2:=Ext.at hE3 hbx
 refine go trivial ?_
 have c0:zad w3 (some ⟨w.heap.size,0,Option.none⟩)=some (vs s):=zaa (Ext.at hE3 (Ext.at hEx (hE2.at hA0))) rfl
 refine rc c0 (zc5 w3 s (by omega)) ?_
 rintro _ w4 ⟨hE4,cap,rfl,hit⟩
 refine rgo trivial ?_
 have hs4:=hE4.size
 have hI4:SpI w s (w4.heap.size+2) w4 0 false []:=⟨(((hE1.trans hE2).trans hEx).trans hE3).trans hE4,by omega,hE4.at (Ext.at hE3 (Ext.at hEx (hE2.at hA0))),⟨_,hE4.at hB2,((hown2.ext hEx).ext hE3).ext hE4,fun i hi=> .inl (by cases hi;rfl)⟩,hE4.at hB3,hE4.at hbx3⟩
 obtain⟨D,hD⟩:∃D,w4.heap.size=D:=⟨_,rfl⟩
 rw[hD]at hI4
 have hDw:w.heap.size+5≤D:=by omega
 refine zav (Q:=fun e σ' ds' v'=>e= .normal∧ds'=[{target:= .collected D,args:=#[]}]∧v'.heap[D]? =some (.deferred (some []))∧(σ' 1= .pointer (some ⟨w.heap.size,0,Option.none⟩)∧σ' 4= .pointer (some ⟨w.heap.size+2,0,Option.none⟩)∧σ' 5= .pointer (some ⟨w.heap.size+3,0,Option.none⟩)∧σ' 6= .pointer (some ⟨w.heap.size+4,0,Option.none⟩))∧
  ∃f t out,SpI w s (D+2) v' f t out∧out.length≤s.length∧f≤s.length∧splD false [] s=(out++ [s.drop f],t)) ?_ ?_
 ·refine zcs (g:=91) (cap:=cap) (vq0) rfl (hit (fun b=>w.heap.size+1≤b∧b≤w.heap.size+4) (fun b hb=>by omega)) (Keep.refl _ _) (Nat.le_refl _) (fun b hb=>by omega)
   (fun x A args h=>by rw[h];rfl)
   (fun pre A=>∃f t out,SpI w s (D+2) A f t out∧out.length≤pre.length∧f≤pre.length∧splD false [] s=(out++(splD t ((s.drop f).take (pre.length - f)) (s.drop pre.length)).1,(splD t ((s.drop f).take (pre.length - f)) (s.drop pre.length)).2))
   (fun _ _ _=>False) ?_ (fun _ _ _ _ h _=>h.elim) ?_ ?_ ?_ (fun _ _ _ _ _ _ _ h _=>h.elim)
  ·rintro pre A X ⟨f,t,out,h1,h2⟩ hk
   exact⟨f,t,out,h1.keep hk (fun i hi=>by unfold two at hi;omega),h2⟩
  ·exact⟨0,false,[],hI4,by simp,by simp,by simp⟩
  ·rintro lp pre x suf A args hxs hszA ⟨f,t,out,hI,hol,hfl,hsp⟩ rfl
   obtain⟨hk,rfl⟩:=zbL hxs
   dsimp only
   refine go trivial ?_
   refine⟨rfl,KeepB.refl _ _ _,fun A2 hA2=>?_⟩
   rw[hD]at hszA hA2 ⊢
   have hI2:=hI.keep hA2 (fun i hi=>by unfold two at hi;omega)
   have hs2':=hA2.size
   clear hI
   obtain⟨i,hi⟩:∃i,pre.length=i:=⟨_,rfl⟩
   simp only[hi]at hk hsp hol hfl ⊢
   obtain⟨c,hc⟩:∃c,s[i]=c:=⟨_,rfl⟩
   have hcm:=cut_more hfl hk
   rw[hc]at hcm ⊢
   rw[List.drop_eq_getElem_cons hk,hc]at hsp
   have hpl:∀y:UInt8×Nat,(pre++ [y]).length=i+1:=fun y=>by simp[hi]
   have c4:zad A2 (some ⟨w.heap.size+4,0,Option.none⟩)=some (.bool t):=zaa hI2.c4 rfl
   have hi2:(i:Int)+1=((i+1:Nat):Int):=by push_cast;rfl
   have hbv:zao c= .int .u8 (c.toNat:Int):=rfl
   cases t with
   |true=>
    rw[splD,←hcm]at hsp
    refine go c4 ?_
    refine rq ?_;intro gd K hgd hK
    try simp only[go_sem]
    refine zan rfl rfl rfl hI2.c4 (by simp) (by simp) ?_
    intro z1 hzs1 hzb1 hzk1
    try simp only[go_sem]
    refine hK _ _ ?_;clear hK hgd;clear K;try clear gd
    refine go trivial ?_
    exact⟨⟨f,false,out,hI2.turn hzk1 hzb1,by rw[hpl];omega,by rw[hpl];omega,by rw[hpl];exact hsp⟩,hzk1.toB (by omega) (fun j hj h=>by omega)⟩
   |false=>
    rw[splD]at hsp
    by_cases h92:c=92
    ·have d2:decide ((c.toNat:Int)=92)=true:=by subst h92;rfl
     rw[if_pos h92,←hcm]at hsp
     refine go (an3 c4 hbv d2) ?_
     refine rq ?_;intro gd K hgd hK
     try simp only[go_sem]
     refine zan rfl rfl rfl hI2.c4 (by simp) (by simp) ?_
     intro z1 hzs1 hzb1 hzk1
     try simp only[go_sem]
     refine hK _ _ ?_;clear hK hgd;clear K;try clear gd
     refine go trivial ?_
     exact⟨⟨f,true,out,hI2.turn hzk1 hzb1,by rw[hpl];omega,by rw[hpl];omega,by rw[hpl];exact hsp⟩,hzk1.toB (by omega) (fun j hj h=>by omega)⟩
    have d2:decide ((c.toNat:Int)=92)=false:=decide_eq_false fun h=>h92 (UInt8.toNat_inj.1 (by have:(92:UInt8).toNat=92:=rfl;omega))
    rw[if_neg h92]at hsp
    by_cases h46:c=46
    rotate_left
    ·have d3:decide ((c.toNat:Int)=46)=false:=decide_eq_false fun h=>h46 (UInt8.toNat_inj.1 (by have:(46:UInt8).toNat=46:=rfl;omega))
     rw[if_neg h46,←hcm]at hsp
     refine go (an4 c4 hbv d2 d3) ?_
     exact⟨⟨f,false,out,hI2,by rw[hpl];omega,by rw[hpl];omega,by rw[hpl];exact hsp⟩,KeepB.refl _ _ _⟩
    have d3:decide ((c.toNat:Int)=46)=true:=by subst h46;rfl
    rw[if_pos h46]at hsp
    obtain⟨sv,hsvb,hown,hob⟩:=hI2.c2
    have k0:zad A2 (some ⟨w.heap.size,0,Option.none⟩)=some (vs s):=zaa hI2.c0 rfl
    have k2:zad A2 (some ⟨w.heap.size+2,0,Option.none⟩)=some sv:=zaa hsvb rfl
    have k3:zad A2 (some ⟨w.heap.size+3,0,Option.none⟩)=some (vi f):=zaa hI2.c3 rfl
    have z0:(0:Int)≤(f:Int):=by omega
    have z1:(f:Int)≤(i:Int):=by omega
    have z2:(i:Int)≤(s.length:Int):=by omega
    have hlt:=hI2.lt
    have hB5:=hI2.hB
    refine go (an4 c4 hbv d2 d3) ?_
    refine zaS (fun i=>i==6||i==9||i==10) [(0,true),(1,true),(2,true),(3,true),(4,true),(7,true),(8,true),(5,false),(6,false),(9,false),(10,false)] NoS mixed (by kernel_rfl) ?_;intro gd K x hgd hx hxe hK;have hx0:=zaP hxe;clear hxe
    have q0:=zab hx0 k0
    have q2:=zab hx0 k2
    have q3:=zab hx0 k3
    have hsx:=hx0.size
    simp (disch:=first|omega|assumption|rfl) only[go_sem,q0,q2,q3,z0,z1,z2]
    refine za5 (z:=vs []) rfl rfl rfl rfl rfl ?_
    intro y1 hy1 hys1 hyo
    refine⟨.inr hy1.keep,?_⟩
    simp (disch:=first|omega|assumption|rfl) only[go_sem]
    have hxy:=hx0.trans hy1
    refine za2 (e:=9) (hown.ext hxy) hyo.row rfl rfl rfl rfl rfl rfl (vr0) (vr0) (fun q hq=>by simp at hq;subst hq;rfl) (by simp;omega) (by decide) (by omega) ?_
    intro sv' y2 hown2' hX2 hK2 hb2
    refine⟨.inl rfl,?_⟩
    simp (disch:=first|omega|assumption|rfl) only[go_sem,hi2]
    have hsy1:=hy1.size
    have hsK2:=hK2.size
    have hbk:∀j,j<w.heap.size+5→¬j=w.heap.size+1→y2.heap[j]? =A2.heap[j]?:=fun j hj hn=>(hK2.block j (by omega) (fun hh=>by have:=hob _ hh;omega)).trans (hxy.block j (by omega) fun h=>h)
    refine zan (P:=Tryz.prog) rfl rfl (by obtain⟨a,c,rfl⟩:=hown2'.slice;rfl) ((hbk _ (by omega) (by omega)).trans hsvb) (by simp) (by simp) ?_
    intro y3 hs3' hb3 hk3
    refine⟨.inl rfl,?_⟩
    simp (disch:=first|omega|assumption|rfl) only[go_sem,hi2]
    refine zan (P:=Tryz.prog) rfl rfl rfl ((hk3.block _ (by omega) (by omega)).trans ((hbk _ (by omega) (by omega)).trans hI2.c3)) (by simp) (by simp) ?_
    intro y4 hs4' hb4 hk4
    refine⟨.inl rfl,?_⟩
    simp (disch:=first|omega|assumption|rfl) only[go_sem]
    refine hK _ _ ?_;clear hK hgd;clear K;try clear gd
    refine go trivial ?_
    have hbk4:∀j,j<w.heap.size+5→¬j=w.heap.size+1→¬j=w.heap.size+2→¬j=w.heap.size+3→y4.heap[j]? =A2.heap[j]?:=fun j hj h1 h2 h3=>(hk4.block j (by omega) h3).trans ((hk3.block j (by omega) h2).trans (hbk j hj h1))
    have hob':∀j,some j=sv'.ownBlock→j=w.heap.size+1∨D+2≤j:=fun j hj=>by
     rcases hb2 j hj with h|h
     ·exact hob j h
     ·omega
    refine⟨⟨i+1,false,out++ [(s.drop f).take (i - f)],⟨Keep.to_ext (Keep.to_ext (Keep.to_ext (hI2.e.trans hxy) rfl (fun j hj=>by have:=hob j hj;omega) hK2) rfl (fun j hj=>by omega) hk3) rfl (fun j hj=>by omega) hk4,hB5,(hbk4 _ (by omega) (by omega) (by omega) (by omega)).trans hI2.c0,⟨sv',(hk4.block _ (by omega) (by omega)).trans hb3,?_,hob'⟩,hb4,(hbk4 _ (by omega) (by omega) (by omega) (by omega)).trans hI2.c4⟩,by rw[hpl];simp;omega,by rw[hpl];omega,?_⟩,
     ((hxy.toB (by omega) (fun _ _ h=>h.elim)).trans (hK2.toB (by omega) (fun j hj h=>by have:=hob j h;omega))).trans ((hk3.toB (by omega) (fun j hj h=>by omega)).trans (hk4.toB (by omega) (fun j hj h=>by omega)))⟩
    ·rw[List.map_append]
     exact(hown2'.keep hk3 fun j hj h=>by have:=hob' j hj;omega).keep hk4 fun j hj h=>by have:=hob' j hj;omega
    ·rw[hpl,hsp,Nat.sub_self,List.take_zero,List.append_assoc]
     rfl
  ·rintro v hsz ⟨f,t,out,h1,h2,h3,h4⟩ hDv
   rw[hD]at hDv
   have hz:s.zipIdx.length=s.length:=by simp
   rw[hz]at h2 h3 h4
   rw[List.drop_length]at h4
   have h5:splD false [] s=(out++ [s.drop f],t):=by
    rw[h4]
    have:(s.drop f).take (s.length - f)=s.drop f:=List.take_of_length_le (by rw[List.length_drop];omega)
    rw[this]
    cases t<;>rw[splD]
   exact⟨rfl,by rw[hD],hDv,⟨vr0,vr0,vr0,vr0⟩,f,t,out,h1,h2,h3,h5⟩
 rintro _ σ2 ds v ⟨rfl,rfl,hDv,⟨t1,t4,t5,t6⟩,f,t,out,hI,hol,hfl,hsp⟩
 have hlv:=hI.lt
 have c4:zad v (some ⟨w.heap.size+4,0,Option.none⟩)=some (.bool t):=zaa hI.c4 rfl
 cases t with
 |true=>
  refine go (an2 t6 c4) ?_
  refine zfO (v:= .slice Option.none 0 0) (v':=vi 2) (.inr rfl) (by rfl) Tryz.ntmps165 (vr0) (vr0) hDv ?_
  intro Z hkZ hsZ
  exact⟨Keep.to_ext hI.e rfl (fun i hi=>by omega) hkZ,.inl ⟨by rw[hsp],rfl⟩⟩
 |false=>
  obtain⟨sv,hsvb,hown,hob⟩:=hI.c2
  have k0:zad v (some ⟨w.heap.size,0,Option.none⟩)=some (vs s):=zaa hI.c0 rfl
  have k2:zad v (some ⟨w.heap.size+2,0,Option.none⟩)=some sv:=zaa hsvb rfl
  have k3:zad v (some ⟨w.heap.size+3,0,Option.none⟩)=some (vi f):=zaa hI.c3 rfl
  have z0:(0:Int)≤(f:Int):=by omega
  have z2:(f:Int)≤(s.length:Int):=by omega
  refine go (an2 t6 c4) ?_
  refine zaS (fun i=>i==5) [(0,true),(1,true),(2,true),(3,true),(4,false),(5,false),(6,true),(7,true)] NoS mixed (by kernel_rfl) ?_;intro gd K x hgd hx hxe hK;have hx0:=zaP hxe;clear hxe
  have q0:=zab hx0 k0
  have q2:=zab hx0 k2
  have q3:=zab hx0 k3
  have hsx:=hx0.size
  simp (disch:=first|omega|assumption|rfl) only[go_sem,t1,t4,t5,q0,q2,q3,z0,z2]
  refine za5 (z:=vs []) rfl rfl rfl rfl rfl ?_
  intro y1 hy1 hys1 hyo
  refine⟨.inr hy1.keep,?_⟩
  simp (disch:=first|omega|assumption|rfl) only[go_sem]
  have hxy:=hx0.trans hy1
  have hsy1:=hy1.size
  refine za2 (e:=9) (hown.ext hxy) hyo.row rfl rfl rfl rfl rfl rfl (vr0) (vr0) (fun q hq=>by simp at hq;subst hq;rfl) (by simp;omega) (by decide) (by omega) ?_
  intro sv' y2 hown2' hX2 hK2 hb2
  refine⟨.inl rfl,?_⟩
  simp (disch:=first|omega|assumption|rfl) only[go_sem]
  refine hK _ _ ?_;clear hK hgd;clear K;try clear gd
  have hlD:=(Array.getElem?_eq_some_iff.1 hDv).1
  have hB5:=hI.hB
  refine go trivial ?_
  refine zfO (v:=sv') (v':=vi 0) (.inr rfl) (by rfl) Tryz.ntmps165 (vr0) (vr0) ((hK2.block D (by omega) (fun hh=>by have:=hob _ hh;omega)).trans (Ext.at hxy hDv)) ?_
  intro Z hkZ hsZ
  refine⟨Keep.to_ext (Keep.to_ext (hI.e.trans hxy) rfl (fun j hj=>by have:=hob j hj;omega) hK2) rfl (fun i hi=>by omega) hkZ,.inr ⟨by rw[hsp],sv',rfl,?_⟩⟩
  rw[hsp]
  simp only[List.map_append,List.map_cons,List.map_nil]
  exact(hown2'.keep hkZ fun j hj h=>by
   rcases hb2 j hj with h2|h2
   ·have:=hob j h2;omega
   ·omega).row
end Go.Proofs.YtihbdhjibplldaaGreatDoor
